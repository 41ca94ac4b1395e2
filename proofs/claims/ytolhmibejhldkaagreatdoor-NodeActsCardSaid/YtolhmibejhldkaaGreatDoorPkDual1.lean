/- Joined texts; conditions within. -/
import Derived.Laws.Cover3
import Derived.Test.YtolhmibejhldkaaGreatDoorPkActs
set_option linter.unusedVariables false
set_option linter.unusedSimpArgs false
set_option maxRecDepth 100000
set_option maxHeartbeats 16000000
namespace Go.Proofs.YtolhmibejhldkaaGreatDoor
open Go.RowKit Go.Proofs
theorem CR {T:ae} {key:Int} {h:Nat} (hh:T.has key h=false):T.kg key h key h=T.bN key h:=by
 unfold ae.kg ae.bN;rw [hh,if_neg (by decide),if_neg (by simp)];simp
theorem KQ {T:ae} {key v:Int} {h:Nat} (hh:T.has key h=false):T.Eg key h key v h=T.aR key v h:=by
 unfold ae.Eg ae.aR;rw [CR hh];unfold ae.bN;rw [hh];cases hr:T.room key h <;> simp [hr]
theorem RL {T:ae} {key v:Int} {h:Nat} (hh:T.has key h=true):T.aR key v h=T.pq (T.bn key h) (T.iQ key h).toNat v:=by unfold ae.aR;rw [if_pos hh]
section
variable {w w' w0:World} {B Q:Nat} {T:ae} {E:Nat->Addr} {lp:Option Nat} {mt:aG}
theorem TN.lens (h:TN w B Q T E w0) (hl:LW w lp mt) (hs:jb lp B Q w0.heap.size):eT w B Q lp T mt E w0:=⟨h.t,h.good,hl,h.low,h.j3,h.hB,h.hQ,hs⟩
theorem TN.oq (h:TN w B Q T E w0) (hl:LW w lp mt) (hs:jb lp B Q w0.heap.size) (key:Int) (hh:Nat) (hb:hh<18446744073709551616) (q:Option Addr) (hq:di q lp) (x y z:Int) :
 Calls Tryz.prog 43 #[.pointer (some ⟨B,0,none⟩),.agg #[.pointer q,.int .i64 x,.int .i64 y,.int .i64 z],.int .u64 key,.int .u64 (hh:Int)] w λe w' =>
  ∃fp,e = .returned (.agg (dO B key hh (T.mI Q key hh) (T.iQ key hh) fp (T.jU key hh)))/\(0<=T.jU key hh->fp=some ⟨Q,T.dM key hh*25,none⟩)/\TN w' B Q T E w0/\LW w' lp (addN mt x y z (T.looks key hh))/\ah (λb=>lp=some b) w w':=by
 have h0:=h.lens hl hs;refine (qA B Q T h.good key hh hb q lp hq mt x y z w h.t hl (hs.oq hl h.low.lt) h.low.t).mono ?_;rintro e w' ⟨fp,rfl,hf,h1,h2⟩
 exact ⟨fp,rfl,hf,(h0.turn h1 h2).Ay,h1,h2⟩
theorem TN.entry (h:TN w B Q T E w0) (key:Int) (hh:Nat) (fp:Option Addr) (fz:Int) :
 Calls Tryz.prog 44 #[.agg (dO B key hh (T.mI Q key hh) (T.iQ key hh) fp fz)] w λe w' =>
  e = .returned (.tuple #[(T.bA key hh).pg,.bool (T.has key hh)])/\Below w.heap.size w w' :=
 qN B Q T h.good key hh fp fz E w h.t (h.low.e.sub (by decide))
theorem TN.own {T':ae} (h:TN w B Q T E w0) (ht:TS w' B Q T') (hg:bq T') (hc:ah (λb=>b=B\/b=Q) w w'):TN w' B Q T' E w0 :=
 eT.full h ht hg (λM e=>by cases e) (hc.mono λb _ e => .inr e)
theorem TN.replace (h:TN w B Q T E w0) (key v:Int) (hh:Nat) (hb:hh<18446744073709551616) (fp:Option Addr) (fz:Int) (hq:T.has key hh=true) :
 Calls Tryz.prog 45 #[.agg (dO B key hh (T.mI Q key hh) (T.iQ key hh) fp fz),.int .u64 v] w λe w' =>
  e = .returned .nilIface/\TN w' B Q (T.aR key v hh) E w0/\ah (λb=>b=B\/b=Q) w w':=by
 refine (CQ B Q T h.good key hh fp fz v E w h.t (h.low.e.sub (by decide))).mono ?_;rintro e w' ⟨rfl,h1,h2⟩
 rw [hq,if_pos rfl,<-RL hq] at h1;rw [hq,if_pos rfl,fG];exact ⟨rfl,h.own h1 (h.good.aR v hb) h2,h2⟩
theorem TN.remove (h:TN w B Q T E w0) (key:Int) (hh:Nat) (fp:Option Addr) (fz:Int) (hq:T.has key hh=true) :
 Calls Tryz.prog 92 #[.agg (dO B key hh (T.mI Q key hh) (T.iQ key hh) fp fz)] w λe w' =>
  e = .returned .nilIface/\TN w' B Q (T.eB key hh) E w0/\ah (λb=>b=B\/b=Q) w w':=by
 refine (Eb B Q T h.good key hh fp fz E w h.t (h.low.e.sub (by decide))).mono ?_;rintro e w' ⟨rfl,h1,h2⟩
 rw [hq,if_pos rfl,fG];exact ⟨rfl,h.own h1 h.good.eB h2,h2⟩
theorem TN.place (h:TN w B Q T E w0) (key:Int) (hh:Nat) (hb:hh<18446744073709551616) (fp:Option Addr) (hfp:0<=T.jU key hh->fp=some ⟨Q,T.dM key hh*25,none⟩) (v:Int) (hq:T.has key hh=false) :
 Calls Tryz.prog 46 #[.agg (dO B key hh (T.mI Q key hh) (T.iQ key hh) fp (T.jU key hh)),.agg #[.int .u64 key,.int .u64 v,.int .u64 (hh:Int)]] w λe w' =>
  e = .returned (jF E (T.bN key hh))/\TN w' B Q (T.aR key v hh) E w0/\ah (λb=>b=B\/b=Q) w w':=by
 refine (Hr B Q T h.good key hh hb fp hfp key v hh E w h.t (h.low.e.sub (by decide))).mono ?_;rintro e w' ⟨rfl,h1,h2⟩
 rw [CR hq];rw [KQ hq] at h1;exact ⟨rfl,h.own h1 (h.good.aR v hb) h2,h2⟩
end
end Go.Proofs.YtolhmibejhldkaaGreatDoor
namespace Go.Proofs.YtolhmibejhldkaaGreatDoor
open Go.RowKit Go.Proofs
structure DuS where
 k:Nat
 d:Nat
 gn:Nat
 bare:Nat
 nx:Nat
 T:ae
 U:Nat->ae
namespace DuS
def y (s:DuS) (h:Nat):Nat:=fO s.k s.d h
def mF (s:DuS) (key:Int) (h:Nat):Bool:=decide (s.bare=0) && (s.U (s.y h)).has key h
def has (s:DuS) (key:Int) (h:Nat):Bool:=s.mF key h || s.T.has key h
def bA (s:DuS) (key:Int) (h:Nat):ai:=if s.mF key h=true then (s.U (s.y h)).bA key h else s.T.bA key h
def jY (s:DuS) (key:Int) (h:Nat):Nat:=if s.bare=0 then (s.U (s.y h)).looks key h else 0
def jZ (s:DuS) (key:Int) (h:Nat):Nat:=if s.mF key h=true then 0 else s.T.looks key h
def ny (s:DuS) (T:ae):DuS:={ s with T:=T}
def mH (s:DuS) (i:Nat) (V:ae):DuS:={ s with U:=upd s.U i V}
def put (s:DuS) (key v:Int) (h:Nat) (more:Bool):DuS :=
 if s.mF key h=true then s.mH (s.y h) ((s.U (s.y h)).aR key v h)
 else if s.T.has key h=true then s.ny (s.T.aR key v h)
 else if more=false then s
 else if s.bare=0 then s.mH (s.y h) ((s.U (s.y h)).aR key v h) else s.ny (s.T.aR key v h)
def fst (s:DuS) (h:Nat):ae:=if s.bare=0 then s.U (s.y h) else s.T
def bB (s:DuS) (key:Int) (h:Nat) (more:Bool):Bool := !s.has key h && more && (s.fst h).bB key h
def bN (s:DuS) (key:Int) (h:Nat) (more:Bool):Nat:=if s.has key h=true then 0 else if more=false then 2 else (s.fst h).bN key h
def del (s:DuS) (key:Int) (h:Nat):DuS :=
 if s.mF key h=true then s.mH (s.y h) ((s.U (s.y h)).eB key h) else s.ny (s.T.eB key h)
def je (s:DuS):DuS:={ s with bare:=s.bare-1}
def move (s:DuS):DuS:={ s with nx:=s.nx+1,T:=s.T.dw s.nx,U:=(jN s.k s.d (aS (s.T.M s.nx) (s.T.S s.nx)) (s.U,0)).1}
def qW (s:DuS) (key:Int) (h:Nat):Bool:=decide (s.bare=0) && ((s.U (s.y h)).has key h || !s.T.has key h)
def dA (s:DuS) (key:Int) (h:Nat):ae:=if s.qW key h=true then s.U (s.y h) else s.T
def ib (s:DuS) (key:Int) (h:Nat) (V:ae):DuS:=if s.qW key h=true then s.mH (s.y h) V else s.ny V
def jE (s:DuS) (a:Nat->Nat) (key:Int) (h:Nat):Nat:=if s.qW key h=true then a (8+3*s.y h) else a 1
def gD (s:DuS) (a:Nat->Nat) (key:Int) (h:Nat):Nat:=if s.qW key h=true then a (9+3*s.y h) else a 2
def left (s:DuS):Nat:=s.bare+(s.T.n-s.nx)
def all (s:DuS):Nat->List ai
 | 0=>s.T.iG
 | i+1=>s.all i ++ (s.U i).iG
end DuS
theorem mK (s:DuS) (key:Int) (h:Nat):(s.dA key h).has key h=s.has key h:=by
 unfold DuS.dA DuS.qW DuS.has DuS.mF;cases c0:decide (s.bare=0) <;> cases c1:(s.U (s.y h)).has key h <;> cases c2:s.T.has key h <;> simp [c1,c2]
theorem Jp (s:DuS) (key:Int) (h:Nat):(s.dA key h).bA key h=s.bA key h:=by
 unfold DuS.dA DuS.qW DuS.bA DuS.mF;cases c0:decide (s.bare=0) <;> cases c1:(s.U (s.y h)).has key h <;> cases c2:s.T.has key h <;> simp [c1]
 rw [bU.eu c1,bU.eu c2]
theorem abf {s:DuS} {key:Int} {h:Nat} (hh:s.has key h=true) (v:Int) (more:Bool):s.put key v h more=s.ib key h ((s.dA key h).aR key v h):=by
 unfold DuS.put DuS.ib DuS.dA DuS.qW;unfold DuS.has at hh;unfold DuS.mF at hh ⊢;cases c0:decide (s.bare=0) <;> cases c1:(s.U (s.y h)).has key h <;> cases c2:s.T.has key h <;> simp [c0,c1,c2] at hh ⊢
theorem adC {s:DuS} {key:Int} {h:Nat} (hh:s.has key h=false) (v:Int):s.put key v h false=s:=by
 unfold DuS.has at hh;simp only [Bool.or_eq_false_iff] at hh;unfold DuS.put;rw [hh.1,hh.2];rfl
theorem Ut {s:DuS} {key:Int} {h:Nat} (hh:s.has key h=false) (v:Int):s.put key v h true=s.ib key h ((s.dA key h).aR key v h):=by
 unfold DuS.has at hh;simp only [Bool.or_eq_false_iff] at hh;unfold DuS.put;rw [hh.1,hh.2];have h1:=hh.1;unfold DuS.mF at h1;unfold DuS.ib DuS.dA DuS.qW;rw [hh.2];by_cases c0:s.bare=0
 . simp [c0]
 . simp [c0]
theorem Jo {s:DuS} {key:Int} {h:Nat} (hh:s.has key h=false):s.dA key h=s.fst h:=by
 unfold DuS.has at hh;simp only [Bool.or_eq_false_iff] at hh;unfold DuS.dA DuS.qW DuS.fst;rw [hh.2];by_cases c0:s.bare=0
 . simp [c0]
 . simp [c0]
theorem Q0 {s:DuS} {key:Int} {h:Nat} (hh:s.has key h=true):s.del key h=s.ib key h ((s.dA key h).eB key h):=by
 unfold DuS.del DuS.ib DuS.dA DuS.qW;unfold DuS.has at hh;unfold DuS.mF at hh ⊢;cases c0:decide (s.bare=0) <;> cases c1:(s.U (s.y h)).has key h <;> cases c2:s.T.has key h <;> simp [c0,c1,c2] at hh ⊢
theorem aep {s:DuS} {key:Int} {h:Nat} (hh:s.has key h=false):s.del key h=s:=by
 unfold DuS.has at hh;simp only [Bool.or_eq_false_iff] at hh;unfold DuS.del;rw [hh.1];simp only [Bool.false_eq_true,if_false];unfold ae.eB;rw [hh.2];rfl
structure dW (s:DuS):Prop where
 hk:s.k=1\/(s.k=2/\s.d<=15)
 hr:aN (s.gn:Int)=true
 hb:s.bare<=s.k*s.gn
 hx:s.nx<=s.T.n
 t:bq s.T
 u:∀i,i<s.k->bq (s.U i)/\(s.U i).n=s.gn
 pre:0<s.bare->s.nx=0/\∀i,i<s.k->s.U i=ae.new s.gn
section
variable {s:DuS}
theorem dW.yk (h:dW s) (hs:Nat):s.y hs<s.k:=gm h.hk
theorem kF (T:ae) (key v:Int) (h:Nat):(T.aR key v h).n=T.n:=by
 unfold ae.aR;split
 . rfl
 . split <;> rfl
theorem JX (T:ae) (key:Int) (h:Nat):(T.eB key h).n=T.n:=by
 unfold ae.eB;split <;> rfl
theorem dW.ny {T:ae} (h:dW s) (hT:bq T) (hn:T.n=s.T.n):dW (s.ny T):=⟨h.hk,h.hr,h.hb,by show s.nx<=T.n;rw [hn];exact h.hx,hT,h.u,h.pre⟩
theorem dW.mH {V:ae} {i:Nat} (h:dW s) (h0:s.bare=0) (hV:bq V) (hn:V.n=s.gn):dW (s.mH i V) :=
 ⟨h.hk,h.hr,h.hb,h.hx,h.t,λj hj=>by
  show bq (upd s.U i V j)/\(upd s.U i V j).n=s.gn
  by_cases e:j=i
  . subst e;rw [upd_same];exact ⟨hV,hn⟩
  . rw [ay _ _ e];exact h.u j hj,λhb=>by have:0<s.bare:=hb;omega⟩
theorem dW.abI {key:Int} {hs:Nat} (hi:s.mF key hs=true):s.bare=0/\(s.U (s.y hs)).has key hs=true:=by
 unfold DuS.mF at hi;simpa using hi
theorem dW.put (h:dW s) (key v:Int) {hs:Nat} (hh:hs<18446744073709551616) (more:Bool):dW (s.put key v hs more):=by
 have hu:=h.u _ (h.yk hs);unfold DuS.put;split
 . rename_i c
   exact h.mH (dW.abI c).1 (hu.1.aR v hh) ((kF _ _ _ _).trans hu.2)
 . split
   . exact h.ny (h.t.aR v hh) (kF _ _ _ _)
   . split
     . exact h
     . split
       . rename_i c;exact h.mH c (hu.1.aR v hh) ((kF _ _ _ _).trans hu.2)
       . exact h.ny (h.t.aR v hh) (kF _ _ _ _)
theorem dW.del (h:dW s) (key:Int) (hs:Nat):dW (s.del key hs):=by
 have hu:=h.u _ (h.yk hs);unfold DuS.del;split
 . rename_i c
   exact h.mH (dW.abI c).1 hu.1.eB ((JX _ _ _).trans hu.2)
 . exact h.ny h.t.eB (JX _ _ _)
theorem dW.je (h:dW s):dW s.je:=⟨h.hk,h.hr,qH (Nat.sub_le _ _) h.hb,h.hx,h.t,h.u,λhb=>h.pre (by have:0<s.bare-1:=hb;omega)⟩
theorem Fp {k d:Nat} (hk:k=1\/(k=2/\d<=15)) {gn:Nat}:∀ (l:List ai) (U:Nat->ae) (p:Nat),(∀e∈l,e.hash.toNat<18446744073709551616)->(∀i,i<k->bq (U i)/\(U i).n=gn)->∀i,i<k->bq ((jN k d l (U,p)).1 i)/\((jN k d l (U,p)).1 i).n=gn
 | [],U,p,_,h=>h
 | e :: l,U,p,hl,h=>by
  show ∀i,i<k->bq ((jN k d l (TT k d (U,p) e)).1 i)/\_
  refine Fp hk l _ _ (λa ha=>hl a (List.mem_cons_of_mem _ ha)) (λi hi=>?_);have hy:=gm (h:=e.hash.toNat) hk;by_cases c:i=fO k d e.hash.toNat
  . subst c;rw [upd_same,kF];exact ⟨(h _ hi).1.aR _ (hl e List.mem_cons_self),(h _ hi).2⟩
  . rw [ay _ _ c];exact h i hi
theorem dW.move (h:dW s) (h0:s.bare=0) (hn:s.nx<s.T.n):dW s.move:=by
 have hl:∀e∈aS (s.T.M s.nx) (s.T.S s.nx),e.hash.toNat<18446744073709551616:=λe he=>(qM (h.t.good s.nx hn) he).2;refine ⟨h.hk,h.hr,h.hb,?_,h.t.dw hn,Fp h.hk _ _ _ hl h.u,λhb=>?_⟩
 . show s.nx+1<=(s.T.dw s.nx).n
   rw [Az];omega
 . have:0<s.bare:=hb;omega
end
def dX (U:Nat->ae) (k:Nat):Int:=((List.range k).map λi=>(U i).lv+(U i).tb).sum
theorem qJ (U:Nat->ae):dX U 1=(U 0).lv+(U 0).tb:=by simp [dX]
theorem qI (U:Nat->ae):dX U 2=(U 0).lv+(U 0).tb+((U 1).lv+(U 1).tb):=by simp [dX,List.range_succ]
theorem Ca {U:Nat->ae} {k i:Nat} (hk:k=1\/k=2) (hi:i<k) (T':ae):dX (upd U i T') k=dX U k-((U i).lv+(U i).tb)+(T'.lv+T'.tb):=by
 rcases hk with rfl|rfl
 . obtain rfl:i=0:=by omega
   rw [qJ,qJ,upd_same];omega
 . rw [qI,qI];obtain rfl|rfl:i=0\/i=1:=by omega
   . rw [upd_same,ay _ _ (by decide:(1:Nat)≠0)];omega
   . rw [upd_same,ay _ _ (by decide:(0:Nat)≠1)];omega
theorem Lf {U:Nat->ae} {k i:Nat} (hk:k=1\/k=2) (hi:i<k) (h0:∀j,j<k->0<=(U j).lv+(U j).tb):(U i).lv+(U i).tb<=dX U k:=by
 rcases hk with rfl|rfl
 . obtain rfl:i=0:=by omega
   rw [qJ];omega
 . rw [qI];have h1:=h0 0 (by decide);have h2:=h0 1 (by decide);have hi':i=0\/i=1:=by omega
   rcases hi' with rfl|rfl
   . omega
   . omega
theorem Jt {T:ae} (key v:Int) (h:Nat):(T.aR key v h).lv+(T.aR key v h).tb<=T.lv+T.tb+(if T.bB key h=true then 1 else 0):=by
 unfold ae.aR ae.bB;cases c:T.has key h with
 | true =>
  rw [if_pos rfl];show T.lv+T.tb<=_
  simp
 | false =>
  rw [if_neg Bool.false_ne_true];cases d:T.room key h with
  | true =>
   rw [if_pos rfl];show T.lv+1+(if ln _ _=254 then T.tb-1 else T.tb)<=_
   simp only [Bool.not_false,Bool.true_and,if_true];split <;> omega
  | false=>rw [if_neg Bool.false_ne_true];simp
structure UF (U:Nat->ae) (k d:Nat) (H:Int->Nat):Prop where
 f:∀i,i<k->bU (U i) H
 side:∀i,i<k->∀q,(U i).has q (H q)=true->fO k d (H q)=i
section
variable {U:Nat->ae} {k d gn:Nat} {H:Int->Nat}
theorem UF.at (h:UF U k d H) (hk:k=1\/(k=2/\d<=15)) (q v:Int) (hh:H q<18446744073709551616) :
 ∀i,i<k->∀q',(upd U (fO k d (H q)) ((U (fO k d (H q))).aR q v (H q)) i).has q' (H q')=(if q'=q/\fO k d (H q)=i then (U (fO k d (H q))).ok q (H q) else (U i).has q' (H q'))/\
  (upd U (fO k d (H q)) ((U (fO k d (H q))).aR q v (H q)) i).bA q' (H q')=if q'=q/\fO k d (H q)=i then (if (U (fO k d (H q))).ok q (H q)=true then ⟨q,v,H q⟩ else ai.zero) else (U i).bA q' (H q'):=λi hik q'=>by
 have hi:=gm (h:=H q) hk;generalize hix:fO k d (H q)=x at *
 by_cases e:i=x
 . subst e;rw [upd_same];have h1:=(h.f i hi).nz q v hh q';rw [h1.1,h1.2];simp only [and_true,and_self]
 . rw [ay _ _ e];have e3:¬x=i:=λe'=>e e'.symm;simp [e3]
theorem UF.put (h:UF U k d H) (hk:k=1\/(k=2/\d<=15)) (q v:Int) (hh:H q<18446744073709551616):UF (upd U (fO k d (H q)) ((U (fO k d (H q))).aR q v (H q))) k d H:=by
 have hi:=gm (h:=H q) hk;refine ⟨λi hik=>?_,λi hik q' hq'=>?_⟩
 . by_cases e:i=fO k d (H q)
   . subst e;rw [upd_same];exact (h.f _ hi).aR q v hh
   . rw [ay _ _ e];exact h.f i hik
 . rw [(h.at hk q v hh i hik q').1] at hq';split at hq'
   . rename_i e;rw [e.1];exact e.2
   . exact h.side i hik q' hq'
theorem UF.del (h:UF U k d H) (hk:k=1\/(k=2/\d<=15)) (q:Int):UF (upd U (fO k d (H q)) ((U (fO k d (H q))).eB q (H q))) k d H:=by
 have hi:=gm (h:=H q) hk;refine ⟨λi hik=>?_,λi hik q' hq'=>?_⟩
 . by_cases e:i=fO k d (H q)
   . subst e;rw [upd_same];exact (h.f _ hi).eB q (H q)
   . rw [ay _ _ e];exact h.f i hik
 . by_cases e:i=fO k d (H q)
   . subst e;rw [upd_same,((h.f _ hi).OG q q').1] at hq';split at hq'
     . cases hq'
     . exact h.side _ hi q' hq'
   . rw [ay _ _ e] at hq';exact h.side i hik q' hq'
theorem QT (h:UF U k d H) (hk:k=1\/(k=2/\d<=15)) (l:List ai) (hH:∀e∈l,e.hash=(H e.key:Int)/\H e.key<18446744073709551616) (hok:nH k d l U) :
 ∀j,j<=l.length->UF (jN k d (l.take j) (U,0)).1 k d H/\
  (∀i,i<k->∀q,((jN k d (l.take j) (U,0)).1 i).has q (H q)=true↔(U i).has q (H q)=true\/∃p,∃hp:p<l.length,p<j/\l[p].key=q/\fO k d (H q)=i)/\
  (∀i,i<k->∀q,(∀p (hp:p<l.length),p<j->l[p].key=q->fO k d (H q)≠i)->((jN k d (l.take j) (U,0)).1 i).bA q (H q)=(U i).bA q (H q))/\
  (∀p (hp:p<l.length),p<j->((jN k d (l.take j) (U,0)).1 (fO k d (H l[p].key))).bA l[p].key (H l[p].key)=l[p])
 | 0,_=>⟨h,λi hi q=>⟨λe => .inl e,λe=>by rcases e with e | ⟨p,hp,h0,-⟩;exact e;omega⟩,λi hi q _=>rfl,λp hp h0=>by omega⟩
 | j+1,hj=>by
  obtain ⟨h1,h3,h4,h5⟩:=QT h hk l hH hok j (by omega);have hjl:j<l.length:=by omega
  have hb:=hok j hjl;rw [mq hjl];generalize hs:jN k d (l.take j) (U,0)=s at *
  obtain ⟨GU,LH⟩:=hH l[j] (List.getElem_mem hjl);have hcv:l[j].hash.toNat=H l[j].key:=by rw [GU];simp
  rw [hcv] at hb;have hi:=gm (h:=H l[j].key) hk
  have agk:(s.1 (fO k d (H l[j].key))).ok l[j].key (H l[j].key)=true:=by
   rw [(h1.f _ hi).bB] at hb;unfold ae.ok;simp only [Bool.and_eq_true,decide_eq_true_eq] at hb;simp [hb.2]
  have hno:(s.1 (fO k d (H l[j].key))).has l[j].key (H l[j].key)=false:=by
   unfold ae.bB at hb;simp only [Bool.and_eq_true,Bool.not_eq_true'] at hb;exact hb.1
  have p4:=h1.at hk l[j].key l[j].val LH;unfold TT;rw [hcv];refine ⟨h1.put hk l[j].key l[j].val LH,λi hi' q=>?_,λi hi' q hq=>?_,λp hp LA=>?_⟩
  . rw [(p4 i hi' q).1];by_cases c:q=l[j].key/\fO k d (H l[j].key)=i
    . rw [if_pos c,agk];exact ⟨λ_ => .inr ⟨j,hjl,by omega,c.1.symm,by rw [c.1];exact c.2⟩,λ_=>rfl⟩
    . rw [if_neg c,h3 i hi' q]
      constructor
      . rintro (e | ⟨p,hp,LA,e1,e2⟩)
        . exact .inl e
        . exact .inr ⟨p,hp,by omega,e1,e2⟩
      . rintro (e | ⟨p,hp,LA,e1,e2⟩)
        . exact .inl e
        . by_cases e:p=j
          . subst e;exact absurd ⟨e1.symm,by rw [e1];exact e2⟩ c
          . exact .inr ⟨p,hp,by omega,e1,e2⟩
  . rw [(p4 i hi' q).2,if_neg (λe=>hq j hjl (by omega) e.1.symm (by rw [e.1];exact e.2))];exact h4 i hi' q (λp hp LA=>hq p hp (by omega))
  . by_cases e:p=j
    . subst e;rw [(p4 _ hi l[p].key).2,if_pos ⟨rfl,rfl⟩,if_pos agk,<-GU]
    . have hi2:=gm (h:=H l[p].key) hk;have hpp:p<j:=by omega
      have hne:l[p].key≠l[j].key:=λe'=>by
       have:=(h3 (fO k d (H l[p].key)) hi2 l[p].key).2 (.inr ⟨p,hp,hpp,rfl,rfl⟩);rw [e',hno] at this;cases this
      rw [(p4 _ hi2 l[p].key).2,if_neg (λe'=>hne e'.1)];exact h5 p hp hpp
end
structure sO (s:DuS) (H:Int->Nat):Prop where
 ok:dW s
 t:bU s.T H
 u:UF s.U s.k s.d H
 apart:∀q,s.T.has q (H q)=true->(s.U (s.y (H q))).has q (H q)=false
section
variable {s:DuS} {H:Int->Nat}
theorem sO.adI (h:sO s H) (hb:0<s.bare) (q:Int):(s.U (s.y (H q))).has q (H q)=false:=by
 rw [(h.ok.pre hb).2 _ (h.ok.yk _),NJ h.ok.hr]
theorem sO.has_eq (h:sO s H) (q:Int):s.has q (H q)=((s.U (s.y (H q))).has q (H q) || s.T.has q (H q)):=by
 unfold DuS.has DuS.mF;by_cases hb:s.bare=0
 . rw [decide_eq_true hb,Bool.true_and]
 . rw [decide_eq_false hb,h.adI (by omega),Bool.false_and]
theorem sO.pY (h:sO s H) (q:Int):s.bA q (H q)=if (s.U (s.y (H q))).has q (H q)=true then (s.U (s.y (H q))).bA q (H q) else s.T.bA q (H q):=by
 unfold DuS.bA DuS.mF;by_cases hb:s.bare=0
 . rw [decide_eq_true hb,Bool.true_and]
 . rw [decide_eq_false hb,h.adI (by omega),Bool.false_and]
theorem sO.JF (h:sO s H) (q:Int):s.mF q (H q)=(s.U (s.y (H q))).has q (H q):=by
 unfold DuS.mF;by_cases hb:s.bare=0
 . rw [decide_eq_true hb,Bool.true_and]
 . rw [decide_eq_false hb,h.adI (by omega),Bool.false_and]
theorem sO.put (h:sO s H) (q v:Int) (hh:H q<18446744073709551616) (more:Bool):sO (s.put q v (H q) more) H:=by
 refine ⟨h.ok.put q v hh more,?_,?_,?_⟩
 . unfold DuS.put;split
   . exact h.t
   . split
     . exact h.t.aR q v hh
     . split
       . exact h.t
       . split
         . exact h.t
         . exact h.t.aR q v hh
 . unfold DuS.put;split
   . exact h.u.put h.ok.hk q v hh
   . split
     . exact h.u
     . split
       . exact h.u
       . split
         . exact h.u.put h.ok.hk q v hh
         . exact h.u
 . have hT:∀ (hc:(s.U (s.y (H q))).has q (H q)=false) q',(s.T.aR q v (H q)).has q' (H q')=true->(s.U (s.y (H q'))).has q' (H q')=false:=λhc q' hq'=>by
    rw [(h.t.nz q v hh q').1] at hq';by_cases e:q'=q
    . subst e;exact hc
    . rw [if_neg e] at hq';exact h.apart q' hq'
   have hU:∀ (hc:s.T.has q (H q)=false) q',s.T.has q' (H q')=true->(upd s.U (s.y (H q)) ((s.U (s.y (H q))).aR q v (H q)) (s.y (H q'))).has q' (H q')=false:=λhc q' hq'=>by
    have hne:q'≠q:=λe=>by subst e;rw [hc] at hq';cases hq'
    show (upd s.U (fO s.k s.d (H q)) ((s.U (fO s.k s.d (H q))).aR q v (H q)) (s.y (H q'))).has q' (H q')=false
    rw [(h.u.at h.ok.hk q v hh _ (h.ok.yk (H q')) q').1,if_neg (λe=>hne e.1)];exact h.apart q' hq'
   unfold DuS.put;split
   . rename_i c
     rw [h.JF] at c;refine hU ?_;cases c2:s.T.has q (H q) with
     | false=>rfl
     | true=>rw [h.apart q c2] at c;cases c
   . rename_i c
     rw [h.JF,Bool.not_eq_true] at c;split
     . exact hT c
     . rename_i c2
       rw [Bool.not_eq_true] at c2;split
       . exact h.apart
       . split
         . exact hU c2
         . exact hT c
theorem sO.del (h:sO s H) (q:Int):sO (s.del q (H q)) H:=by
 refine ⟨h.ok.del q (H q),?_,?_,?_⟩
 . unfold DuS.del;split
   . exact h.t
   . exact h.t.eB q (H q)
 . unfold DuS.del;split
   . exact h.u.del h.ok.hk q
   . exact h.u
 . unfold DuS.del;split
   . intro q' hq';have Su:s.T.has q' (H q')=true:=hq';have ha:=h.apart q' Su;show (upd s.U (s.y (H q)) ((s.U (s.y (H q))).eB q (H q)) (s.y (H q'))).has q' (H q')=false
     by_cases e:s.y (H q')=s.y (H q)
     . rw [e] at ha ⊢;rw [upd_same,((h.u.f _ (h.ok.yk (H q))).OG q q').1];split
       . rfl
       . exact ha
     . rw [ay _ _ e];exact ha
   . intro q' hq';have Su:(s.T.eB q (H q)).has q' (H q')=true:=hq';rw [(h.t.OG q q').1] at Su;split at Su
     . cases Su
     . exact h.apart q' Su
theorem sO.je (h:sO s H):sO s.je H:=⟨h.ok.je,h.t,h.u,h.apart⟩
theorem sO.move (h:sO s H) (sw:∀q,H q<18446744073709551616) (h0:s.bare=0) (hn:s.nx<s.T.n) (hok:nH s.k s.d (aS (s.T.M s.nx) (s.T.S s.nx)) s.U) :
 sO s.move H/\∀q,s.move.has q (H q)=s.has q (H q)/\s.move.bA q (H q)=s.bA q (H q):=by
 obtain ⟨g1,g2,g3⟩:=mg h.t sw hn;have hT':=h.t.dw hn
 have hent:∀e∈aS (s.T.M s.nx) (s.T.S s.nx),s.T.has e.key (H e.key)=true/\e=s.T.bA e.key (H e.key):=λe he=>by
  unfold aS at he;obtain ⟨k',hk',rfl⟩:=List.mem_map.1 he
  have ha:s.T.At (s.T.S s.nx k').key s.nx k':=by
   unfold aI at hk';simp only [List.mem_filter,List.mem_range] at hk';exact ⟨hn,hk'.1,hk'.2,rfl⟩
  exact ⟨h.t.iZ ha,(h.t.kS ha).symm⟩
 have hmk:=h.ok.move h0 hn;obtain ⟨l,hl⟩:=dC (aS (s.T.M s.nx) (s.T.S s.nx));rw [<-hl] at g1 g2 g3 hent hok;have hmU:s.move.U=(jN s.k s.d l (s.U,0)).1:=by rw [hl];rfl
 obtain ⟨i1,i3,i4,i5⟩:=QT h.u h.ok.hk l g1 hok l.length (aL _);rw [List.take_length,<-hmU] at i1 i3 i4 i5
 have hold:∀q,(s.T.dw s.nx).has q (H q)=true↔s.T.has q (H q)=true/\¬∃p,∃hp:p<l.length,l[p].key=q:=λq=>by
  rw [hT'.iN,h.t.iN]
  constructor
  . rintro ⟨g',k',ha⟩
    rw [jP hn] at ha;refine ⟨⟨g',k',ha.2⟩,?_⟩;rintro ⟨p,hp,hq⟩
    obtain ⟨k2,ha2⟩:=(g3 q).1 ⟨l[p],List.getElem_mem hp,hq⟩;exact ha.1 (h.t.one _ _ _ _ _ ha.2 ha2).1
  . rintro ⟨⟨g',k',ha⟩,hno⟩
    refine ⟨g',k',(jP hn q g' k').2 ⟨λe=>?_,ha⟩⟩;subst e;obtain ⟨e,he,hq⟩:=(g3 q).2 ⟨k',ha⟩;obtain ⟨p,hp,rfl⟩:=List.getElem_of_mem he;exact hno ⟨p,hp,hq⟩
 have hF:sO s.move H:=by
  refine ⟨hmk,hT',i1,λq hq=>?_⟩;have hq2:=(hold q).1 hq;show (s.move.U (fO s.k s.d (H q))).has q (H q)=false
  rw [<-Bool.not_eq_true,i3 _ (gm h.ok.hk)];rintro (e | ⟨p,hp,-,hkey,-⟩)
  . have:=h.apart q hq2.1;rw [show s.y (H q)=fO s.k s.d (H q) from rfl,e] at this;cases this
  . exact hq2.2 ⟨p,hp,hkey⟩
 refine ⟨hF,λq=>?_⟩;have hy:=h.ok.yk (H q);rw [hF.has_eq,hF.pY,h.has_eq,h.pY];show ((s.move.U (fO s.k s.d (H q))).has q (H q) || (s.T.dw s.nx).has q (H q))=_/\(if (s.move.U (fO s.k s.d (H q))).has q (H q)=true then (s.move.U (fO s.k s.d (H q))).bA q (H q) else (s.T.dw s.nx).bA q (H q))=_
 rw [show s.y (H q)=fO s.k s.d (H q) from rfl] at hy ⊢;by_cases e:∃p,∃hp:p<l.length,l[p].key=q
 . obtain ⟨p,hp,rfl⟩:=e;obtain ⟨e1,e2⟩:=hent _ (List.getElem_mem hp);have u1:=(i3 _ hy l[p].key).2 (.inr ⟨p,hp,hp,rfl,rfl⟩);have u0:(s.U (fO s.k s.d (H l[p].key))).has l[p].key (H l[p].key)=false:=h.apart _ e1;rw [u1,u0,e1,if_pos rfl,if_neg (by decide),i5 p hp hp];exact ⟨rfl,e2⟩
 . have u1:(s.move.U (fO s.k s.d (H q))).has q (H q)=(s.U (fO s.k s.d (H q))).has q (H q):=by
    rw [Bool.eq_iff_iff,i3 _ hy q];exact ⟨λc=>by rcases c with c | ⟨p,hp,-,c,-⟩;exact c;exact absurd ⟨p,hp,c⟩ e,λc => .inl c⟩
   have u2:=i4 _ hy q (λp hp _ c=>absurd ⟨p,hp,c⟩ e)
   have t1:(s.T.dw s.nx).has q (H q)=s.T.has q (H q):=by
    rw [Bool.eq_iff_iff,hold q];exact ⟨λc=>c.1,λc=>⟨c,e⟩⟩
   have t2:(s.T.dw s.nx).bA q (H q)=s.T.bA q (H q):=by
    cases c:s.T.has q (H q) with
    | false =>
     rw [bU.eu c,bU.eu (t1.trans c)]
    | true =>
     obtain ⟨g',k',ha⟩:=hT'.iN.1 (t1.trans c);have ha2:=(jP hn q g' k').1 ha;rw [hT'.kS ha,(Cz s.T ha2.1).2,<-h.t.kS ha2.2]
   rw [u1,u2,t1,t2];exact ⟨rfl,rfl⟩
end
theorem rY {T:ae} {a:ai}:∀ {n:Nat},a∈dN T n↔∃g,g<n/\a∈aS (T.M g) (T.S g)
 | 0=>⟨λh=>by simp [dN] at h,λ⟨g,h,_⟩=>by omega⟩
 | n+1=>by
  rw [kN,List.mem_append,rY]
  constructor
  . rintro (⟨g,h1,h2⟩|h)
    . exact ⟨g,by omega,h2⟩
    . exact ⟨n,by omega,h⟩
  . rintro ⟨g,h1,h2⟩
    by_cases e:g=n
    . subst e;exact .inr h2
    . exact .inl ⟨g,by omega,h2⟩
theorem Eo {T:ae} {H:Int->Nat} (hT:bU T H) {a:ai} (h:a∈T.iG):T.has a.key (H a.key)=true/\T.bA a.key (H a.key)=a:=by
 unfold ae.iG at h;obtain ⟨g,hg,hm⟩:=rY.1 h;unfold aS at hm;obtain ⟨k',hk',rfl⟩:=List.mem_map.1 hm
 have ha:T.At (T.S g k').key g k':=by
  unfold aI at hk';simp only [List.mem_filter,List.mem_range] at hk';exact ⟨hg,hk'.1,hk'.2,rfl⟩
 exact ⟨hT.iZ ha,hT.kS ha⟩
theorem La (n:Nat):(ae.new n).iG = []:=by
 rw [List.eq_nil_iff_forall_not_mem];intro a h;unfold ae.iG at h;obtain ⟨g,hg,hm⟩:=rY.1 h;unfold aS at hm;obtain ⟨k',hk',-⟩:=List.mem_map.1 hm;unfold aI at hk';simp only [List.mem_filter,List.mem_range] at hk';have h1:=hk'.2;rw [show (ae.new n).M g=rep 128 from rfl,eO,oG 128 _ (by decide) hk'.1] at h1;omega
def mD (a b:ai×Bool):ai×Bool:=if (b.2 && (!a.2 || bO b.1 a.1))=true then b else a
theorem iI.comb {f:ai} {l m:List ai} {a b:ai×Bool} (ha:iI f l a) (hb:iI f m b):iI f (l ++ m) (mD a b):=by
 unfold mD;rcases ha with ⟨a1,a2⟩ | ⟨a1,a2,a3,a4⟩
 . rcases hb with ⟨b1,b2⟩ | ⟨b1,b2,b3,b4⟩
   . rw [b1];simp only [Bool.false_and,Bool.false_eq_true,if_false];refine .inl ⟨a1,λx hx=>?_⟩;rcases List.mem_append.1 hx with hx|hx
     . exact a2 x hx
     . exact b2 x hx
   . rw [b1,a1];simp only [Bool.not_false,Bool.true_or,Bool.and_self,if_true];refine .inr ⟨b1,List.mem_append_right _ b2,b3,λx hx hf=>?_⟩;rcases List.mem_append.1 hx with hx|hx
     . rw [a2 x hx] at hf;cases hf
     . exact b4 x hx hf
 . rcases hb with ⟨b1,b2⟩ | ⟨b1,b2,b3,b4⟩
   . rw [b1];simp only [Bool.false_and,Bool.false_eq_true,if_false];refine .inr ⟨a1,List.mem_append_left _ a2,a3,λx hx hf=>?_⟩;rcases List.mem_append.1 hx with hx|hx
     . exact a4 x hx hf
     . rw [b2 x hx] at hf;cases hf
   . rw [b1,a1];cases c:bO b.1 a.1 with
     | true =>
      simp only [Bool.or_true,Bool.and_self,if_true];refine .inr ⟨b1,List.mem_append_right _ b2,b3,λx hx hf=>?_⟩;rcases List.mem_append.1 hx with hx|hx
      . have q:=a4 x hx hf;rw [nL] at q ⊢;rw [Lh] at c;omega
      . exact b4 x hx hf
     | false =>
      simp only [Bool.not_true,Bool.or_self,Bool.and_false,Bool.false_eq_true,if_false];refine .inr ⟨a1,List.mem_append_left _ a2,a3,λx hx hf=>?_⟩;rcases List.mem_append.1 hx with hx|hx
      . exact a4 x hx hf
      . have q:=b4 x hx hf;rw [nL] at q c ⊢;omega
theorem Ib {f:ai} {l m:List ai} {a b:ai×Bool} (ha:iI f l a) (hb:iI f m b) (hm:∀x,x∈l↔x∈m) (hu:∀x∈l,∀y∈l,x.key=y.key->x=y) (ha0:a.2=false->a.1=ai.zero) (hb0:b.2=false->b.1=ai.zero):a=b:=by
 obtain ⟨x,p⟩:=a;obtain ⟨y,q⟩:=b;dsimp only at *
 rcases ha with ⟨a1,a2⟩ | ⟨a1,a2,a3,a4⟩
 . rcases hb with ⟨b1,b2⟩ | ⟨b1,b2,b3,b4⟩
   . dsimp only at *
     rw [ha0 a1,hb0 b1,a1,b1]
   . dsimp only at *
     rw [a2 y ((hm y).2 b2)] at b3;cases b3
 . rcases hb with ⟨b1,b2⟩ | ⟨b1,b2,b3,b4⟩
   . dsimp only at *
     rw [b2 x ((hm x).1 a2)] at a3;cases a3
   . dsimp only at *
     have c1:=a4 y ((hm y).2 b2) b3;have c2:=b4 x ((hm x).1 a2) a3;rw [nL] at c1 c2;rw [hu x a2 y ((hm y).2 b2) (by omega),a1,b1]
theorem lY (l:List ai) (f:ai):(ae.dU l f).2=false->(ae.dU l f).1=ai.zero:=(pK l f).2
theorem Co {a b:ai×Bool} (ha:a.2=false->a.1=ai.zero) (hb:b.2=false->b.1=ai.zero):(mD a b).2=false->(mD a b).1=ai.zero:=by
 unfold mD;split
 . exact hb
 . exact ha
def DuS.r9 (s:DuS) (f:ai):Nat->ai×Bool
 | 0=>(ai.zero,false)
 | i+1=>mD (s.r9 f i) ((s.U i).least f)
def DuS.least (s:DuS) (f:ai):ai×Bool:=mD (if s.bare=0 then s.r9 f s.k else (ai.zero,false)) (s.T.least f)
def DuS.oZ (s:DuS):Nat->List ai
 | 0 => []
 | i+1=>s.oZ i ++ (s.U i).iG
theorem CX (s:DuS) (f:ai):∀i,iI f (s.oZ i) (s.r9 f i)/\((s.r9 f i).2=false->(s.r9 f i).1=ai.zero)
 | 0=>⟨.inl ⟨rfl,λa ha=>by cases ha⟩,λ_=>rfl⟩
 | i+1=>by
  obtain ⟨h1,h2⟩:=CX s f i;exact ⟨h1.comb (rZ _ f),Co h2 (lY _ f)⟩
theorem jA (s:DuS):∀i,s.all i=s.T.iG ++ s.oZ i
 | 0=>(List.append_nil _).symm
 | i+1=>by show s.all i ++ _=_ ++ (s.oZ i ++ _);rw [jA s i,List.append_assoc]
theorem BX {s:DuS} {a:ai}:∀ {n:Nat},a∈s.oZ n↔∃i,i<n/\a∈(s.U i).iG
 | 0=>⟨λh=>(by cases h),λ⟨i,h,_⟩=>by omega⟩
 | n+1=>by
  show a∈s.oZ n ++ _↔_
  rw [List.mem_append,BX]
  constructor
  . rintro (⟨g,h1,h2⟩|h)
    . exact ⟨g,by omega,h2⟩
    . exact ⟨n,by omega,h⟩
  . rintro ⟨g,h1,h2⟩
    by_cases e:g=n
    . subst e;exact .inr h2
    . exact .inl ⟨g,by omega,h2⟩
section
variable {s:DuS} {H:Int->Nat}
theorem sO.mem (h:sO s H) {a:ai} (ha:a∈s.all s.k):s.has a.key (H a.key)=true/\s.bA a.key (H a.key)=a:=by
 rw [jA,List.mem_append] at ha;rw [h.has_eq,h.pY];rcases ha with ha|ha
 . obtain ⟨h1,h2⟩:=Eo h.t ha;rw [h.apart _ h1,h1];exact ⟨rfl,by rw [if_neg (by decide)];exact h2⟩
 . obtain ⟨i,hi,hm⟩:=BX.1 ha;obtain ⟨h1,h2⟩:=Eo (h.u.f i hi) hm;have hs:=h.u.side i hi _ h1;rw [show s.y (H a.key)=i from hs,h1];exact ⟨rfl,by rw [if_pos rfl];exact h2⟩
theorem sO.U0 (h:sO s H) (f:ai):s.least f=ae.dU (s.all s.k) f:=by
 have hu:∀x∈s.all s.k,∀y∈s.all s.k,x.key=y.key->x=y:=λx hx y hy e=>by
  rw [<- (h.mem hx).2,<- (h.mem hy).2,e]
 have h2:=rZ (s.all s.k) f;have hT:=rZ s.T.iG f;unfold DuS.least;by_cases hb:s.bare=0
 . rw [if_pos hb];obtain ⟨h3,h4⟩:=CX s f s.k;refine (Ib h2 (h3.comb hT) (λx=>?_) hu (lY _ f) (Co h4 (lY _ f))).symm;rw [jA,List.mem_append,List.mem_append,or_comm]
 . rw [if_neg hb]
   have hn:∀i,i<=s.k->s.oZ i = []:=λi=>by
    induction i with
    | zero=>intro _;rfl
    | succ i ih =>
     intro hi;show s.oZ i ++ (s.U i).iG = []
     rw [ih (by omega),(h.ok.pre (by omega)).2 i (by omega),La];rfl
   have h3:iI f ([]:List ai) (ai.zero,false) := .inl ⟨rfl,λa ha=>by cases ha⟩;refine (Ib h2 (h3.comb hT) (λx=>?_) hu (lY _ f) (Co (λ_=>rfl) (lY _ f))).symm;rw [jA,hn s.k (aL _),List.append_nil,List.nil_append]
end
def DuS.pr (s:DuS) (i:Nat):Nat:=min s.gn (s.k*s.gn-s.bare-i*s.gn)
def Used (k:Nat) (b0:Bool) (x:Nat):Prop:=x<4\/(b0=true/\x<7)\/(7<=x/\x<7+3*k)
structure DuN (a:Nat->Nat) (k:Nat) (b0:Bool) (n0:Nat):Prop where
 inj:∀x y,Used k b0 x->Used k b0 y->a x=a y->x=y
 ge:∀x,Used k b0 x->n0<=a x
structure ni (w:World) (a:Nat->Nat) (s:DuS) (aT:Nat) (tk:Bool) (E:Nat->Addr) (w0:World):Prop where
 hb:0<s.bare
 hd:af w (a 0) 165 #[.pointer (some ⟨a 1,0,none⟩),.int .i64 (s.d:Int),.slice (some ⟨a 3,0,none⟩) s.k aT,.slice none 0 0,.pointer none,.bool tk]
 bl:∀i,i<s.k->w.cell? ⟨a 3,i,none⟩=some (.pointer (some ⟨a (7+3*i),0,none⟩))
 bz:a 3<w.heap.size
 bw:∀i,i<s.k->BW w (a (7+3*i)) (a (8+3*i)) (a (9+3*i)) s.gn (s.pr i) false
 t:TN w (a 1) (a 2) s.T E w0
 n:DuN a s.k false w0.heap.size
structure jm (w:World) (a:Nat->Nat) (s:DuS) (aT dz cap5:Nat) (tk:Bool) (E:Nat->Addr) (w0:World):Prop where
 hb:s.bare=0
 hd:af w (a 0) 165 #[.pointer (some ⟨a 1,0,none⟩),.int .i64 (s.d:Int),.slice (some ⟨a 3,0,none⟩) s.k aT,.slice (some ⟨a 4,0,none⟩) s.k dz,.pointer (some ⟨a 5,0,none⟩),.bool tk]
 bl:∀i,i<s.k->w.cell? ⟨a 3,i,none⟩=some (.pointer (some ⟨a (7+3*i),0,none⟩))
 bz:a 3<w.heap.size
 bb:∀i,i<s.k->af w (a (7+3*i)) 211 #[.pointer none,.int .i64 (s.gn:Int),.int .i64 (s.gn:Int)]
 fl:∀i,i<s.k->w.cell? ⟨a 4,i,none⟩=some (.pointer (some ⟨a (8+3*i),0,none⟩))
 fz:a 4<w.heap.size
 e:EW w (a 5) (a 1) (a 6) cap5 s.k (λi=>a (8+3*i)) s.d s.nx
 t:TN w (a 1) (a 2) s.T E w0
 u:∀i,i<s.k->TN w (a (8+3*i)) (a (9+3*i)) (s.U i) E w0
 n:DuN a s.k true w0.heap.size
theorem Used.fH {k x:Nat} {b:Bool} (h:x<4):Used k b x := .inl h
theorem Used.lt7 {k x:Nat} (h:x<7):Used k true x:=by unfold Used;by_cases c:x<4;exact .inl c;exact .inr (.inl ⟨rfl,h⟩)
theorem Used.of {k x i:Nat} {b:Bool} (hi:i<k) (h1:7+3*i<=x) (h2:x<10+3*i):Used k b x := .inr (.inr ⟨by omega,by omega⟩)
theorem DuN.ne {a:Nat->Nat} {k n0:Nat} {b:Bool} (h:DuN a k b n0) {x y:Nat} (hx:Used k b x) (hy:Used k b y) (hne:x≠y):a x≠a y:=λe=>hne (h.inj x y hx hy e)
section
variable {w w' w0:World} {a:Nat->Nat} {s:DuS} {aT dz cap5:Nat} {tk:Bool} {E:Nat->Addr}
theorem ni.later (h:ni w a s aT tk E w0) (hb:Below w.heap.size w w'):ni w' a s aT tk E w0 :=
 ⟨h.hb,h.hd.below hb h.hd.lt,λi hi=>(hb.cell (p:=⟨a 3,i,none⟩) h.bz).trans (h.bl i hi),bM h.bz hb.size,λi hi=>(h.bw i hi).later hb,h.t.later hb,h.n⟩
theorem jm.later (h:jm w a s aT dz cap5 tk E w0) (hb:Below w.heap.size w w'):jm w' a s aT dz cap5 tk E w0 :=
 ⟨h.hb,h.hd.below hb h.hd.lt,λi hi=>(hb.cell (p:=⟨a 3,i,none⟩) h.bz).trans (h.bl i hi),bM h.bz hb.size,λi hi=>(h.bb i hi).below hb (h.bb i hi).lt,
  λi hi=>(hb.cell (p:=⟨a 4,i,none⟩) h.fz).trans (h.fl i hi),bM h.fz hb.size,h.e.later hb,h.t.later hb,λi hi=>(h.u i hi).later hb,h.n⟩
theorem ni.aA {Y:Nat->Prop} (h:ni w a s aT tk E w0) (hc:ah Y w w') (h0:∀b,Y b->w0.heap.size<=b) (hY:∀x,Used s.k false x->¬Y (a x)):ni w' a s aT tk E w0 :=
 ⟨h.hb,h.hd.aA hc (hY 0 (.fH (by decide))),λi hi=>(hc.cell (p:=⟨a 3,i,none⟩) h.bz (hY 3 (.fH (by decide)))).trans (h.bl i hi),bM h.bz hc.size,
  λi hi=>(h.bw i hi).aA hc (hY _ (.of hi (by omega) (by omega))) (hY _ (.of hi (by omega) (by omega))) (hY _ (.of hi (by omega) (by omega))),
  eT.aA h.t hc h0 (hY 1 (.fH (by decide))) (hY 2 (.fH (by decide))) (λb e=>by cases e),h.n⟩
theorem jm.aA {Y:Nat->Prop} (h:jm w a s aT dz cap5 tk E w0) (hc:ah Y w w') (h0:∀b,Y b->w0.heap.size<=b) (hY:∀x,Used s.k true x->¬Y (a x)):jm w' a s aT dz cap5 tk E w0 :=
 ⟨h.hb,h.hd.aA hc (hY 0 (.fH (by decide))),λi hi=>(hc.cell (p:=⟨a 3,i,none⟩) h.bz (hY 3 (.fH (by decide)))).trans (h.bl i hi),bM h.bz hc.size,
  λi hi=>(h.bb i hi).aA hc (hY _ (.of hi (by omega) (by omega))),
  λi hi=>(hc.cell (p:=⟨a 4,i,none⟩) h.fz (hY 4 (.lt7 (by decide)))).trans (h.fl i hi),bM h.fz hc.size,
  h.e.aA hc (hY 5 (.lt7 (by decide))) (hY 6 (.lt7 (by decide))),
  eT.aA h.t hc h0 (hY 1 (.fH (by decide))) (hY 2 (.fH (by decide))) (λb e=>by cases e),
  λi hi=>eT.aA (h.u i hi) hc h0 (hY _ (.of hi (by omega) (by omega))) (hY _ (.of hi (by omega) (by omega))) (λb e=>by cases e),h.n⟩
theorem ni.old {T':ae} (h:ni w a s aT tk E w0) (ht:TN w' (a 1) (a 2) T' E w0) (hc:ah (λb=>b=a 1\/b=a 2) w w'):ni w' a (s.ny T') aT tk E w0:=by
 have hn:∀x,Used s.k false x->x≠1->x≠2->¬ (a x=a 1\/a x=a 2):=λx hx h1 h2 e=>by
  rcases e with e|e
  . exact h1 (h.n.inj _ _ hx (.fH (by decide)) e)
  . exact h2 (h.n.inj _ _ hx (.fH (by decide)) e)
 exact ⟨h.hb,h.hd.aA hc (hn 0 (.fH (by decide)) (by decide) (by decide)),λi hi=>(hc.cell (p:=⟨a 3,i,none⟩) h.bz (hn 3 (.fH (by decide)) (by decide) (by decide))).trans (h.bl i hi),bM h.bz hc.size,
  λi hi=>(h.bw i hi).aA hc (hn _ (.of hi (by omega) (by omega)) (by omega) (by omega)) (hn _ (.of hi (by omega) (by omega)) (by omega) (by omega)) (hn _ (.of hi (by omega) (by omega)) (by omega) (by omega)),ht,h.n⟩
theorem jm.old {T':ae} (h:jm w a s aT dz cap5 tk E w0) (ht:TN w' (a 1) (a 2) T' E w0) (hc:ah (λb=>b=a 1\/b=a 2) w w'):jm w' a (s.ny T') aT dz cap5 tk E w0:=by
 have hn:∀x,Used s.k true x->x≠1->x≠2->¬ (a x=a 1\/a x=a 2):=λx hx h1 h2 e=>by
  rcases e with e|e
  . exact h1 (h.n.inj _ _ hx (.fH (by decide)) e)
  . exact h2 (h.n.inj _ _ hx (.fH (by decide)) e)
 have h0:∀b,(b=a 1\/b=a 2)->w0.heap.size<=b:=λb e=>by rcases e with e|e <;> rw [e] <;> exact h.n.ge _ (.fH (by decide))
 exact ⟨h.hb,h.hd.aA hc (hn 0 (.fH (by decide)) (by decide) (by decide)),λi hi=>(hc.cell (p:=⟨a 3,i,none⟩) h.bz (hn 3 (.fH (by decide)) (by decide) (by decide))).trans (h.bl i hi),bM h.bz hc.size,
  λi hi=>(h.bb i hi).aA hc (hn _ (.of hi (by omega) (by omega)) (by omega) (by omega)),
  λi hi=>(hc.cell (p:=⟨a 4,i,none⟩) h.fz (hn 4 (.lt7 (by decide)) (by decide) (by decide))).trans (h.fl i hi),bM h.fz hc.size,
  h.e.aA hc (hn 5 (.lt7 (by decide)) (by decide) (by decide)) (hn 6 (.lt7 (by decide)) (by decide) (by decide)),ht,
  λi hi=>eT.aA (h.u i hi) hc h0 (hn _ (.of hi (by omega) (by omega)) (by omega) (by omega)) (hn _ (.of hi (by omega) (by omega)) (by omega) (by omega)) (λb e=>by cases e),h.n⟩
theorem jm.target {T':ae} {j:Nat} (hj:j<s.k) (h:jm w a s aT dz cap5 tk E w0) (ht:TN w' (a (8+3*j)) (a (9+3*j)) T' E w0) (hc:ah (λb=>b=a (8+3*j)\/b=a (9+3*j)) w w'):jm w' a (s.mH j T') aT dz cap5 tk E w0:=by
 have hn:∀x,Used s.k true x->x≠8+3*j->x≠9+3*j->¬ (a x=a (8+3*j)\/a x=a (9+3*j)):=λx hx h1 h2 e=>by
  rcases e with e|e
  . exact h1 (h.n.inj _ _ hx (.of hj (by omega) (by omega)) e)
  . exact h2 (h.n.inj _ _ hx (.of hj (by omega) (by omega)) e)
 have h0:∀b,(b=a (8+3*j)\/b=a (9+3*j))->w0.heap.size<=b:=λb e=>by rcases e with e|e <;> rw [e] <;> exact h.n.ge _ (.of hj (by omega) (by omega))
 exact ⟨h.hb,h.hd.aA hc (hn 0 (.fH (by decide)) (by omega) (by omega)),λi hi=>(hc.cell (p:=⟨a 3,i,none⟩) h.bz (hn 3 (.fH (by decide)) (by omega) (by omega))).trans (h.bl i hi),bM h.bz hc.size,
  λi hi=>(h.bb i hi).aA hc (hn _ (.of hi (by omega) (by omega)) (by omega) (by omega)),
  λi hi=>(hc.cell (p:=⟨a 4,i,none⟩) h.fz (hn 4 (.lt7 (by decide)) (by omega) (by omega))).trans (h.fl i hi),bM h.fz hc.size,
  h.e.aA hc (hn 5 (.lt7 (by decide)) (by omega) (by omega)) (hn 6 (.lt7 (by decide)) (by omega) (by omega)),
  eT.aA h.t hc h0 (hn 1 (.fH (by decide)) (by omega) (by omega)) (hn 2 (.fH (by decide)) (by omega) (by omega)) (λb e=>by cases e),
  λi hi=>by
   by_cases e:i=j
   . subst e;show TN w' _ _ (upd s.U i T' i) E w0;rw [upd_same];exact ht
   . show TN w' _ _ (upd s.U j T' i) E w0
     rw [ay _ _ e]
     exact eT.aA (h.u i hi) hc h0 (hn _ (.of hi (by omega) (by omega)) (by omega) (by omega)) (hn _ (.of hi (by omega) (by omega)) (by omega) (by omega)) (λb e=>by cases e),h.n⟩
theorem ni.cells (h:ni w a s aT tk E w0):w.cell? ⟨a 0,0,none⟩=some (.pointer (some ⟨a 1,0,none⟩))/\w.cell? ⟨a 0,1,none⟩=some (.int .i64 (s.d:Int))/\w.cell? ⟨a 0,2,none⟩=some (.slice (some ⟨a 3,0,none⟩) s.k aT)/\w.cell? ⟨a 0,3,none⟩=some (.slice none 0 0)/\
 w.cell? ⟨a 0,4,none⟩=some (.pointer none)/\w.cell? ⟨a 0,5,none⟩=some (.bool tk)/\a 0<w.heap.size:=⟨h.hd.cell 0,h.hd.cell 1,h.hd.cell 2,h.hd.cell 3,h.hd.cell 4,h.hd.cell 5,h.hd.lt⟩
theorem jm.cells (h:jm w a s aT dz cap5 tk E w0):w.cell? ⟨a 0,0,none⟩=some (.pointer (some ⟨a 1,0,none⟩))/\w.cell? ⟨a 0,1,none⟩=some (.int .i64 (s.d:Int))/\w.cell? ⟨a 0,2,none⟩=some (.slice (some ⟨a 3,0,none⟩) s.k aT)/\w.cell? ⟨a 0,3,none⟩=some (.slice (some ⟨a 4,0,none⟩) s.k dz)/\
 w.cell? ⟨a 0,4,none⟩=some (.pointer (some ⟨a 5,0,none⟩))/\w.cell? ⟨a 0,5,none⟩=some (.bool tk)/\a 0<w.heap.size:=⟨h.hd.cell 0,h.hd.cell 1,h.hd.cell 2,h.hd.cell 3,h.hd.cell 4,h.hd.cell 5,h.hd.lt⟩
end
theorem rz {w:World} {P:Nat} {Ty:TypeId} {z0 z1 z2 z3 z4 z5 z6:Value} (h:af w P Ty #[z0,z1,z2,z3,z4,z5,z6]) (v0 v1 v2 v3 v4 v5 v6:Value) :
 af (((((((w.setCell ⟨P,0,none⟩ v0).setCell ⟨P,1,none⟩ v1).setCell ⟨P,2,none⟩ v2).setCell ⟨P,3,none⟩ v3).setCell ⟨P,4,none⟩ v4).setCell ⟨P,5,none⟩ v5).setCell ⟨P,6,none⟩ v6) P Ty #[v0,v1,v2,v3,v4,v5,v6]:=by
 have h1:=((((((h.set 0 v0).set 1 v1).set 2 v2).set 3 v3).set 4 v4).set 5 v5).set 6 v6;simp only [List.setIfInBounds_toArray,List.set_cons_zero,List.set_cons_succ] at h1;exact h1
theorem jG (w:World) (P:Nat) (v0 v1 v2 v3 v4 v5 v6:Value):ah (λb=>b=P) w (((((((w.setCell ⟨P,0,none⟩ v0).setCell ⟨P,1,none⟩ v1).setCell ⟨P,2,none⟩ v2).setCell ⟨P,3,none⟩ v3).setCell ⟨P,4,none⟩ v4).setCell ⟨P,5,none⟩ v5).setCell ⟨P,6,none⟩ v6) :=
 (((((((ah.refl _ w).set1 _ _).set1 _ _).set1 _ _).set1 _ _).set1 _ _).set1 _ _).set1 _ _
theorem bY {w:World} {C:Nat} {T:TypeId} {a b c d e f g:Value} (h:af w C T #[a,b,c,d,e,f,g]):w.cell? ⟨C,0,none⟩=some a/\w.cell? ⟨C,1,none⟩=some b/\w.cell? ⟨C,2,none⟩=some c/\w.cell? ⟨C,3,none⟩=some d/\w.cell? ⟨C,4,none⟩=some e/\w.cell? ⟨C,5,none⟩=some f/\w.cell? ⟨C,6,none⟩=some g :=
 ⟨h.cell 0,h.cell 1,h.cell 2,h.cell 3,h.cell 4,h.cell 5,h.cell 6⟩
section
variable {w w' w0:World} {a:Nat->Nat} {s:DuS} {aT dz cap5:Nat} {tk:Bool} {E:Nat->Addr} {lp:Option Nat} {mt:aG}
theorem ni.lt (h:ni w a s aT tk E w0):∀x,Used s.k false x->a x<w.heap.size:=λx hx=>by
 rcases hx with hx | ⟨e,-⟩ | ⟨h1,h2⟩
 . match x,hx with
   | 0,_=>exact h.hd.lt
   | 1,_=>exact h.t.Sg
   | 2,_=>exact h.t.Sd
   | 3,_=>exact h.bz
 . cases e
 . obtain ⟨i,j,hi,hj,rfl⟩:∃i j,i<s.k/\j<3/\x=7+j+3*i:=⟨(x-7) / 3,(x-7) % 3,by omega,by omega,by omega⟩
   have hw:=h.bw i hi
   match j,hj with
   | 0,_=>exact hw.b.lt
   | 1,_=>exact (hw.t rfl).head.lt
   | 2,_=>exact (hw.t rfl).lt
theorem jm.lt (h:jm w a s aT dz cap5 tk E w0):∀x,Used s.k true x->a x<w.heap.size:=λx hx=>by
 rcases hx with hx | ⟨-,hx⟩ | ⟨h1,h2⟩
 . match x,hx with
   | 0,_=>exact h.hd.lt
   | 1,_=>exact h.t.Sg
   | 2,_=>exact h.t.Sd
   | 3,_=>exact h.bz
 . match x,hx with
   | 0,_=>exact h.hd.lt
   | 1,_=>exact h.t.Sg
   | 2,_=>exact h.t.Sd
   | 3,_=>exact h.bz
   | 4,_=>exact h.fz
   | 5,_=>exact h.e.b.lt
   | 6,_=>exact h.e.lt
 . obtain ⟨i,j,hi,hj,rfl⟩:∃i j,i<s.k/\j<3/\x=7+j+3*i:=⟨(x-7) / 3,(x-7) % 3,by omega,by omega,by omega⟩
   match j,hj with
   | 0,_=>exact (h.bb i hi).lt
   | 1,_=>exact (h.u i hi).Sg
   | 2,_=>exact (h.u i hi).Sd
def mZ (lp:Option Nat) (a:Nat->Nat) (k:Nat) (b0:Bool) (n0:Nat):Prop := ∀b,lp=some b->n0<=b/\∀x,Used k b0 x->b≠a x
theorem mZ.ok {k n0:Nat} {b0:Bool} (h:mZ lp a k b0 n0) {x y:Nat} (hx:Used k b0 x) (hy:Used k b0 y):jb lp (a x) (a y) n0:=λb e=>⟨(h b e).2 x hx,(h b e).2 y hy,(h b e).1⟩
theorem ni.lens (h:ni w a s aT tk E w0) (hs:mZ lp a s.k false w0.heap.size) (hc:ah (λb=>lp=some b) w w'):ni w' a s aT tk E w0:=h.aA hc (λb e=>(hs b e).1) (λx hx e=>(hs _ e).2 x hx rfl)
theorem jm.lens (h:jm w a s aT dz cap5 tk E w0) (hs:mZ lp a s.k true w0.heap.size) (hc:ah (λb=>lp=some b) w w'):jm w' a s aT dz cap5 tk E w0:=h.aA hc (λb e=>(hs b e).1) (λx hx e=>(hs _ e).2 x hx rfl)
theorem ni.ready (h:ni w a s aT tk E w0):Calls Tryz.prog 106 #[.pointer (some ⟨a 0,0,none⟩)] w λe w'=>e = .returned (.bool false)/\w=w':=by
 obtain ⟨c0,c1,c2,c3,c4,c5,zc⟩:=h.cells;clear h;go_enter Tryz.func106,Tryz.ntmps106
 go_wp2;go_ret;exact ⟨rfl,rfl⟩
theorem jm.ready (h:jm w a s aT dz cap5 tk E w0):Calls Tryz.prog 106 #[.pointer (some ⟨a 0,0,none⟩)] w λe w'=>e = .returned (.bool true)/\w=w':=by
 obtain ⟨c0,c1,c2,c3,c4,c5,zc⟩:=h.cells;clear h;go_enter Tryz.func106,Tryz.ntmps106
 go_wp2;go_ret;exact ⟨rfl,rfl⟩
theorem ni.oq (h:ni w a s aT tk E w0) (hl:LW w lp mt) (hs:mZ lp a s.k false w0.heap.size) (key:Int) (hh:Nat) (hb:hh<18446744073709551616) (q:Option Addr) (hq:di q lp) (x y z:Int) :
 Calls Tryz.prog 91 #[.pointer (some ⟨a 0,0,none⟩),.agg #[.pointer q,.int .i64 x,.int .i64 y,.int .i64 z],.int .u64 key,.int .u64 (hh:Int)] w λe w' =>
  ∃fp,e = .returned (.tuple #[.agg (dO (a 1) key hh (s.T.mI (a 2) key hh) (s.T.iQ key hh) fp (s.T.jU key hh)),.bool (s.T.has key hh)])/\(0<=s.T.jU key hh->fp=some ⟨a 2,s.T.dM key hh*25,none⟩)/\ni w' a s aT tk E w0/\LW w' lp (addN mt x y z (s.T.looks key hh))/\ah (λb=>lp=some b) w w':=by
 have HS:=aa hs;have HD:=aa h;have HL:=aa hl;have SK:=aa (λ(w':World) (h':ni w' a s aT tk E w0) (hl':LW w' lp mt)=>TN.oq h'.t hl' (hs.ok (.fH (by decide)) (.fH (by decide))) key hh hb q hq x y z);have EN:=aa (λ(fp:Option Addr) (w':World) (h':ni w' a s aT tk E w0)=>TN.entry h'.t key hh fp (s.T.jU key hh));have RD:=aa (λ(w':World) (h':ni w' a s aT tk E w0)=>h'.ready);have z0:=h.hd.lt;have hz0:=h.t.j3.size;unfold dO at *
 unfold ai.pg at EN;generalize s.T.mI (a 2) key hh=ap at *
 generalize s.T.iQ key hh=az at *
 generalize s.T.jU key hh=fz at *
 generalize s.T.has key hh=hs' at *
 generalize (s.T.bA key hh).key=k0 at *
 generalize (s.T.bA key hh).val=k1 at *
 generalize (s.T.bA key hh).hash=k2 at *
 generalize s.T.looks key hh=lk at *
 generalize s.T.dM key hh=fg at *
 clear h hl hs;go_enter Tryz.func91,Tryz.ntmps91
 go_upto_region 2 with (go_at_call 106;(with_reducible refine (RD.out _ (HD.out.later (by go_grown))).mono ?_);rintro e w1 ⟨rfl,rfl⟩)
 refine bG (λw1 hw1=>?_);have hb1:Below w.heap.size w w1:=by rw [hw1];go_grown
 obtain ⟨B5,jL⟩:=dC w.heap.size;have X5:=aa (show af w1 B5 50 #[.pointer q,.int .i64 x,.int .i64 y,.int .i64 z] by rw [hw1,jL];exact (af.new _ _ _).alloc _);have X8:=aa (show af w1 (B5+1) 100 #[.pointer none,.int .u64 0,.int .u64 0,.pointer none,.int .i64 0,.pointer none,.int .i64 0] by rw [hw1,jL];exact af.aF (by simp));have D1:=aa (HD.out.later hb1);have L1:=aa (HL.out.later hb1);have abM:B5+1+1<=w1.heap.size:=by rw [hw1,jL];simp
 have Sz:w.heap.size<=B5:=Nat.le_of_eq jL.symm;have ik:∀b,B5<=b->¬lp=some b:=λb hb e=>by have:=(HL.out b e).lt;omega
 have IA:=aa D1.out.lt;have sN:=aa (show ∀x,Used s.k false x->a x<B5 from λx hx=>by have:=HD.out.lt x hx;omega);have HLZ:=aa (show ∀b,lp=some b->b<w1.heap.size from λb e=>(L1.out b e).lt);rw [<-jL];replace jL:=aa jL;replace hw1:=aa hw1;have ru:=aa (show ah (λb=>lp=some b) w w1 from ah.of_below hb1);clear hb1;obtain ⟨c0,c1,c2,c3,c4,c5,zc⟩:=D1.out.cells;obtain ⟨l0,l1,l2,l3⟩:=iq X5.out;have zl:=X5.out.lt;have hn0:¬lp=some (a 0):=λe=>(HS.out _ e).2 0 (.fH (by decide)) rfl;have QN:¬lp=some B5:=ik _ (aL _);go_cut [10] (λv10 wx => ∃ (P:Nat) (fp:Option Addr),v10 = .pointer (some ⟨P,0,none⟩)/\(0<=fz->fp=some ⟨a 2,fg*25,none⟩)/\w1.heap.size<=P/\af wx P 100 #[.pointer (some ⟨a 1,0,none⟩),.int .u64 key,.int .u64 (hh:Int),.pointer ap,.int .i64 az,.pointer fp,.int .i64 fz]/\ni wx a s aT tk E w0/\LW wx lp (addN mt x y z lk)/\ah (λb=>lp=some b) w1 wx)
 case first =>
  refine cZ (λb=>lp=some b) #[⟨0,0,2^22,1,0⟩,⟨1,1,2^23,2^22,0⟩,⟨2,3,2^24,2^23,0⟩,⟨4,7,2^25,2^24,1⟩,⟨0,0,2^26,32,1⟩,⟨0,0,2^27,4,0⟩,⟨0,0,2^28,8,0⟩,⟨120,127,2^29,503316480,3⟩,⟨0,0,1024,0,2⟩,⟨511,511,0,(2^10+2^29),3⟩] 24 (.step 0 0 (.step 1 0 (.step 2 0 (.step 3 1 (.step 4 1 (.step 5 0 (.step 6 0 (.fork (.alt 7 (.step 8 2 (.step 9 3 bu.done)) (.alt 8 (.step 7 3 (.step 9 3 bu.done)) bu.none)))))))))) (by kernel_rfl) (by kernel_rfl) (by kernel_rfl) (by kernel_rfl) (by kernel_rfl) (by kernel_rfl) (λc a d v w h=>by cases d <;> exact h) ?_;refine cO ?_;refine cO ?_;refine cO ?_;refine qV Tryz.underlying85 ?_
  try refine bF ?_
  refine ztL [_,_,_,_] Tryz.underlying50 ?_
  try refine bF ?_;refine cO ?_;refine cO ?_
  refine BH (λK hK=>?_) λK hK=>?_
  (go_wp2_with ((go_at_call 43;(with_reducible refine (SK.out _ (by exact D1.out.later (aM _ _).drew) (by exact L1.out.later (aM _ _).drew)).mono ?_);rintro e w9 ⟨MU,rfl,qZ,-,qY,dH⟩;have C9:Hid (ah (λb=>lp=some b) w1 w9):=aa (by exact dH.bS);have D9:=aa (D1.out.lens HS.out C9.out);have L9:=aa qY;have z9:=C9.out.size;(try have P9:Hid (af w9 w1.heap.size 100 #[.pointer none,.int .u64 0,.int .u64 0,.pointer none,.int .i64 0,.pointer none,.int .i64 0]):=aa (af.aA (af.drew (af.new w1 _ _)) dH (ik _ (by omega))));(try have p9:=bY P9.out);(try have MO:=p9.1);(try have MN:=p9.2.1);(try have MM:=p9.2.2.1);(try have ML:=p9.2.2.2.1);(try have MJ:=p9.2.2.2.2.1);(try have MI:=p9.2.2.2.2.2.1);(try have MH:=p9.2.2.2.2.2.2);(try clear p9);(try have UA:=λj=>P9.out.frozen j);(try have TZ:=P9.out.lt)));refine eQ hK (h:=?_);clear hK K)
  try refine bF ?_
  refine qU λK hK=>?_;go_wp2_with (fail);refine eQ hK (h:=?_);clear hK K
  try refine bF ?_
  refine iC λK hK=>?_;go_wp2_with (fail);refine hK.out _ _ ?_;clear hK K
  try refine bF ?_
  refine bP ?_
  rotate_left 1
  (go_wp2_with (fail);refine eQ hK (h:=?_);clear hK K)
  try refine bF ?_
  refine iC λK hK=>?_;go_wp2_with ((go_at_call 43;(with_reducible refine (SK.out _ (by exact D1.out.later ((aM _ _).alloc (aL _) _).drew) (by exact L1.out.later ((aM _ _).alloc (aL _) _).drew)).mono ?_);rintro e w9 ⟨MU,rfl,qZ,-,qY,dH⟩;have C9:Hid (ah (λb=>lp=some b) w1 w9):=aa (by exact (((ah.refl _ w1).alloc _).drew).trans dH);have D9:=aa (D1.out.lens HS.out C9.out);have L9:=aa qY;have z9:=C9.out.size;(try have P9:Hid (af w9 w1.heap.size 100 #[.pointer none,.int .u64 0,.int .u64 0,.pointer none,.int .i64 0,.pointer none,.int .i64 0]):=aa (af.aA (af.drew (af.new w1 _ _)) dH (ik _ (by omega))));(try have p9:=bY P9.out);(try have MO:=p9.1);(try have MN:=p9.2.1);(try have MM:=p9.2.2.1);(try have ML:=p9.2.2.2.1);(try have MJ:=p9.2.2.2.2.1);(try have MI:=p9.2.2.2.2.2.1);(try have MH:=p9.2.2.2.2.2.2);(try clear p9);(try have UA:=λj=>P9.out.frozen j);(try have TZ:=P9.out.lt)));refine hK.out _ _ ?_;clear hK K
  try refine bF ?_
  refine iC λK hK=>?_;go_wp2_with (fail);refine hK.out _ _ ?_;clear hK K
  try refine bF ?_
  refine bP ?_
  rotate_left 1
  rotate_right 2
  all_goals (go_wp2;go_meet)
  all_goals
   first
    | with_reducible exact ⟨_,_,rfl,qZ,by omega,af.new _ _ _,D9.out.later ((aM _ _).alloc (aL _) _),L9.out.later ((aM _ _).alloc (aL _) _),C9.out.alloc _⟩
    | with_reducible exact ⟨_,_,rfl,qZ,aL _,rz P9.out _ _ _ _ _ _ _,D9.out.aA (jG _ _ _ _ _ _ _ _ _) (λb e=>by subst e;omega) (λx hx e=>by have:=IA.out x hx;omega),L9.out.aA (jG _ _ _ _ _ _ _ _ _) (λb e e2=>by have:=HLZ.out b e;omega),C9.out.trans' (jG _ _ _ _ _ _ _ _ _) (λb hb e=>by omega)⟩
 case rest =>
  obtain ⟨P,fp,rfl,EH,hPz,hP,hD,hL,hC⟩:=hcut;have Rh:=aa EH;clear EH;have DC:=aa hD;have LC:=aa hL;have CC:=aa hC;have PC:=aa hP;have XC:=aa (X8.out.aA hC (ik _ (by omega)));obtain ⟨e0,e1,e2,e3,e4,e5,e6⟩:=bY hP;have zP:=hP.lt;have zc1:=hC.size;clear hD hL hC hP c0 c1 c2 c3 c4 c5 zc l0 l1 l2 l3 zl X5 X8 D1 L1
  go_wp2_with (first|(go_at_call 44;(with_reducible refine (EN.out fp _ DC.out).mono ?_);rintro e w2 ⟨rfl,hb2⟩;have P2:=PC.out.below hb2 PC.out.lt;have p2:=bY P2;have UC:=p2.1;have p21:=p2.2.1;have p22:=p2.2.2.1;have p23:=p2.2.2.2.1;have p24:=p2.2.2.2.2.1;have p25:=p2.2.2.2.2.2.1;have p26:=p2.2.2.2.2.2.2;have M6:=P2.lt;have X2:=XC.out.below hb2 XC.out.lt;have x2:=bY X2;have x20:=x2.1;have x21:=x2.2.1;have x22:=x2.2.2.1;have x23:=x2.2.2.2.1;have x24:=x2.2.2.2.2.1;have x25:=x2.2.2.2.2.2.1;have x26:=x2.2.2.2.2.2.2;have xf2:=λj=>X2.frozen j;have zX2:=X2.lt;have HB2:=aa hb2;have J8:=aa X2;clear p2 x2)|(refine gH rfl (fq (t:=100) rfl rfl rfl (J8.out.alloc (.cells #[.int .u64 k0,.int .u64 k1,.int .u64 k2] 46)) (by rfl) (Tryz.sizeOf100 _) (by simp [Value.oneCell'])) ?_))
  refine aJ (λWf hWf=>?_);have hR:af Wf (B5+1) 100 #[.pointer (some ⟨a 1,0,none⟩),.int .u64 key,.int .u64 (hh:Int),.pointer ap,.int .i64 az,.pointer fp,.int .i64 fz]:=by rw [hWf];exact (J8.out.alloc _).setRow _
  obtain ⟨r0,r1,r2,r3,r4,r5,r6⟩:=bY hR;have fI:ah (λb=>b=B5+1) (w2.alloc (.cells #[.int .u64 k0,.int .u64 k1,.int .u64 k2] 46)) Wf:=by rw [hWf];exact (ah.refl (λb=>b=B5+1) _).setRow (.inl rfl) _
  have hDA:=((DC.out.later HB2.out).later ((aM _ _).alloc (aL _) (.cells #[.int .u64 k0,.int .u64 k1,.int .u64 k2] 46)))
  refine bodyPost_ret (v := .tuple #[.agg #[.pointer (some ⟨a 1,0,none⟩),.int .u64 key,.int .u64 (hh:Int),.pointer ap,.int .i64 az,.pointer fp,.int .i64 fz],.bool hs']) (by simp [results,Tryz.results91,go_sem,r0,r1,r2,r3,r4,r5,r6]) rfl ⟨fp,rfl,Rh.out,hDA.aA fI (λb e=>by omega) (λx hx e=>by have:=sN.out x hx;omega),((LC.out.later HB2.out).later ((aM _ _).alloc (aL _) _)).aA fI (λb e e2=>ik b (by omega) e),?_⟩;exact ((((ru.out.trans CC.out).au HB2.out).alloc _).trans' fI (λb hb e=>by omega))
theorem jm.oq (h:jm w a s aT dz cap5 tk E w0) (hok:dW s) (hl:LW w lp mt) (hs:mZ lp a s.k true w0.heap.size) (key:Int) (hh:Nat) (hb:hh<18446744073709551616) (q:Option Addr) (hq:di q lp) (x y z:Int) :
 Calls Tryz.prog 91 #[.pointer (some ⟨a 0,0,none⟩),.agg #[.pointer q,.int .i64 x,.int .i64 y,.int .i64 z],.int .u64 key,.int .u64 (hh:Int)] w λe w' =>
  ∃fp,e = .returned (.tuple #[.agg (dO (s.jE a key hh) key hh ((s.dA key hh).mI (s.gD a key hh) key hh) ((s.dA key hh).iQ key hh) fp ((s.dA key hh).jU key hh)),.bool (s.has key hh)])/\(0<=(s.dA key hh).jU key hh->fp=some ⟨s.gD a key hh,(s.dA key hh).dM key hh*25,none⟩)/\jm w' a s aT dz cap5 tk E w0/\LW w' lp (addN mt x y z (s.jY key hh+s.jZ key hh))/\ah (λb=>lp=some b) w w':=by
 have hyk:=hok.yk hh;have HS:=aa hs;have HD:=aa h;have HL:=aa hl;have TG:=aa (λ(w':World) (h':jm w' a s aT dz cap5 tk E w0)=>pX (a 5) (a 1) (a 6) cap5 s.k (λi=>a (8+3*i)) s.d s.nx hh hb w' h'.e);have SU:=aa (λ(w':World) (h':jm w' a s aT dz cap5 tk E w0) (hl':LW w' lp mt)=>TN.oq (h'.u _ hyk) hl' (hs.ok (.of hyk (by omega) (by omega)) (.of hyk (by omega) (by omega))) key hh hb q hq x y z);have SK:=aa (λ(jX:aG) (w':World) (h':jm w' a s aT dz cap5 tk E w0) (hl':LW w' lp jX)=>TN.oq h'.t hl' (hs.ok (.fH (by decide)) (.fH (by decide))) key hh hb q hq x y z);have EU:=aa (λ(fp:Option Addr) (fz:Int) (w':World) (h':jm w' a s aT dz cap5 tk E w0)=>TN.entry (h'.u _ hyk) key hh fp fz);have EN:=aa (λ(fp:Option Addr) (fz:Int) (w':World) (h':jm w' a s aT dz cap5 tk E w0)=>TN.entry h'.t key hh fp fz);have RD:=aa (λ(w':World) (h':jm w' a s aT dz cap5 tk E w0)=>h'.ready);have hz0:=h.t.j3.size;have hb0:=h.hb;unfold DuS.jE DuS.gD DuS.dA DuS.has DuS.jY DuS.jZ;unfold DuS.qW DuS.mF;rw [hb0];simp only [decide_true,Bool.true_and,if_true];unfold dO at *
 unfold ai.pg at EN EU;rw [show fO s.k s.d hh=s.y hh from rfl] at TG;clear h hl hs hb0;generalize hyy:s.y hh=yy at *
 obtain ⟨V,hV⟩:=dC (s.U yy);rw [<-hV] at SU EU ⊢;replace hV:=aa hV;replace hyy:=aa hyy;cases hU:V.has key hh with
 | true =>
  rw [hU] at EU;simp only [Bool.true_or,if_true,Nat.add_zero];generalize V.mI (a (9+3*yy)) key hh=uap at *
  generalize V.iQ key hh=uaz at *
  generalize V.jU key hh=TM at *
  generalize V.has key hh=uh at *
  generalize (V.bA key hh).key=u0 at *
  generalize (V.bA key hh).val=u1 at *
  generalize (V.bA key hh).hash=u2 at *
  generalize V.looks key hh=ulk at *
  generalize V.dM key hh=ufg at *
  generalize s.T.mI (a 2) key hh=ap at *
  generalize s.T.iQ key hh=az at *
  generalize s.T.jU key hh=fz at *
  generalize s.T.has key hh=th at *
  generalize (s.T.bA key hh).key=k0 at *
  generalize (s.T.bA key hh).val=k1 at *
  generalize (s.T.bA key hh).hash=k2 at *
  generalize s.T.looks key hh=lk at *
  generalize s.T.dM key hh=fg at *
  clear hU;go_enter Tryz.func91,Tryz.ntmps91
  go_upto_region 5 with (go_at_call 106;(with_reducible refine (RD.out _ (HD.out.later (by go_grown))).mono ?_);rintro e w1 ⟨rfl,rfl⟩)
  refine bG (λw1 hw1=>?_);have hb1:Below w.heap.size w w1:=by rw [hw1];go_grown
  obtain ⟨B5,jL⟩:=dC w.heap.size;have X5:=aa (show af w1 B5 50 #[.pointer q,.int .i64 x,.int .i64 y,.int .i64 z] by rw [hw1,jL];exact (af.new _ _ _).alloc _);have X8:=aa (show af w1 (B5+1) 100 #[.pointer none,.int .u64 0,.int .u64 0,.pointer none,.int .i64 0,.pointer none,.int .i64 0] by rw [hw1,jL];exact af.aF (by simp));have D1:=aa (HD.out.later hb1);have L1:=aa (HL.out.later hb1);have abM:B5+1+1<=w1.heap.size:=by rw [hw1,jL];simp
  have Sz:w.heap.size<=B5:=Nat.le_of_eq jL.symm;have ik:∀b,B5<=b->¬lp=some b:=λb hb e=>by have:=(HL.out b e).lt;omega
  have IA:=aa D1.out.lt;have HLZ:=aa (show ∀b,lp=some b->b<w1.heap.size from λb e=>(L1.out b e).lt);have sN:=aa (show ∀x,Used s.k true x->a x<B5 from λx hx=>by have:=HD.out.lt x hx;omega);have Hd:=aa (show ∀b,lp=some b->b<B5 from λb e=>by have:=(HL.out b e).lt;omega);rw [<-jL];replace jL:=aa jL;replace hw1:=aa hw1;have ru:=aa (show ah (λb=>lp=some b) w w1 from ah.of_below hb1);clear hb1;obtain ⟨c0,c1,c2,c3,c4,c5,zc⟩:=D1.out.cells;obtain ⟨l0,l1,l2,l3⟩:=iq X5.out;have zl:=X5.out.lt;have hn0:¬lp=some (a 0):=λe=>(HS.out _ e).2 0 (.fH (by decide)) rfl;have QN:¬lp=some B5:=ik _ (aL _);go_cut [13] (λv13 wx => ∃ (P:Nat) (fp:Option Addr),v13 = .pointer (some ⟨P,0,none⟩)/\(0<=TM->fp=some ⟨a (9+3*yy),ufg*25,none⟩)/\w1.heap.size<=P/\af wx P 100 #[.pointer (some ⟨a (8+3*yy),0,none⟩),.int .u64 key,.int .u64 (hh:Int),.pointer uap,.int .i64 uaz,.pointer fp,.int .i64 TM]/\jm wx a s aT dz cap5 tk E w0/\LW wx lp (addN mt x y z ulk)/\ah (λb=>lp=some b) w1 wx)
  case first =>
   refine cZ (λb=>lp=some b) #[⟨0,0,2^37,1,0⟩,⟨1,1,2^38,2^37,0⟩,⟨2,3,2^39,2^38,0⟩,⟨4,7,2^40,2^39,1⟩,⟨0,0,2^41,8,0⟩,⟨24,31,2^42,(2^40+2^41),2⟩,⟨0,0,2^43,32,1⟩,⟨0,0,2^44,4,0⟩,⟨0,0,2^45,8,0⟩,⟨480,511,2^46,65970697666560,3⟩,⟨0,0,8192,0,2⟩,⟨2047,2047,0,(2^13+2^46),3⟩] 72 (.step 0 0 (.step 1 0 (.step 2 0 (.step 3 1 (.step 4 0 (.step 6 1 (.step 7 0 (.step 8 0 (.fork (.alt 5 (.fork (.alt 9 (.step 10 2 (.step 11 3 bu.done)) (.alt 10 (.step 9 3 (.step 11 3 bu.done)) bu.none))) (.alt 10 (.step 5 2 (.step 9 3 (.step 11 3 bu.done))) bu.none))))))))))) (by kernel_rfl) (by kernel_rfl) (by kernel_rfl) (by kernel_rfl) (by kernel_rfl) (by kernel_rfl) (λc a d v w h=>by cases d <;> exact h) ?_;refine cO ?_;refine cO ?_;refine cO ?_;refine qV Tryz.underlying163 ?_
   try refine bF ?_;refine cO ?_
   refine ztL [_,_,_,_] Tryz.underlying50 ?_
   try refine bF ?_;refine cO ?_;refine cO ?_
   refine BH (λK hK=>?_) λK hK=>?_
   (go_wp2_with ((go_at_call 137;(with_reducible refine (TG.out _ (by exact D1.out.later (aM _ _).drew)).mono ?_);rintro e wt ⟨rfl,hbt⟩;have Bt:Below w1.heap.size w1 wt:=(by exact Below.bS hbt);(try have P9:Hid (af wt w1.heap.size 100 #[.pointer none,.int .u64 0,.int .u64 0,.pointer none,.int .i64 0,.pointer none,.int .i64 0]):=aa (af.below (af.drew (af.new w1 _ _)) hbt (by simp)));have Xt:=X5.out.below Bt X5.out.lt;have xt:=iq Xt;have xt0:=xt.1;have xt1:=xt.2.1;have xt2:=xt.2.2.1;have xt3:=xt.2.2.2;have zxt:=Xt.lt;have Dt:=aa (D1.out.later Bt);have Lt:=aa (L1.out.later Bt);have zt:=Bt.size;clear xt Xt));refine eQ hK (h:=?_);clear hK K)
   try refine bF ?_
   refine BH (λK hK=>?_) λK hK=>?_
   (go_wp2_with ((go_at_call 43;(with_reducible refine (SU.out _ (by exact Dt.out) (by exact Lt.out)).mono ?_);rintro e w9 ⟨MU,rfl,qZ,-,qY,dH⟩;have C9:Hid (ah (λb=>lp=some b) w1 w9):=aa (by exact (ah.of_below Bt).trans dH);have D9:=aa (D1.out.lens HS.out C9.out);have L9:=aa qY;have z9:=C9.out.size;(try replace P9:Hid (af w9 w1.heap.size 100 #[.pointer none,.int .u64 0,.int .u64 0,.pointer none,.int .i64 0,.pointer none,.int .i64 0]):=aa (af.aA P9.out dH (ik _ (by omega))));(try have P8:Hid (af w9 wt.heap.size 100 #[.pointer none,.int .u64 0,.int .u64 0,.pointer none,.int .i64 0,.pointer none,.int .i64 0]):=aa (af.aA (af.new wt _ _) dH (ik _ (by omega))));(skip);(try have MO:=p9.1);(try have MN:=p9.2.1);(try have MM:=p9.2.2.1);(try have ML:=p9.2.2.2.1);(try have MJ:=p9.2.2.2.2.1);(try have MI:=p9.2.2.2.2.2.1);(try have MH:=p9.2.2.2.2.2.2);(try clear p9);(skip);(skip)));refine eQ hK (h:=?_);clear hK K)
   try refine bF ?_
   refine qU λK hK=>?_;go_wp2_with (fail);refine eQ hK (h:=?_);clear hK K
   try refine bF ?_
   refine iC λK hK=>?_;go_wp2_with (fail);refine hK.out _ _ ?_;clear hK K
   try refine bF ?_
   refine bP ?_
   rotate_left 1
   (go_wp2_with (fail);refine eQ hK (h:=?_);clear hK K)
   try refine bF ?_
   refine iC λK hK=>?_;go_wp2_with ((go_at_call 43;(with_reducible refine (SU.out _ (by exact Dt.out.later ((aM _ _).alloc (aL _) _)) (by exact Lt.out.later ((aM _ _).alloc (aL _) _))).mono ?_);rintro e w9 ⟨MU,rfl,qZ,-,qY,dH⟩;have C9:Hid (ah (λb=>lp=some b) w1 w9):=aa (by exact ((ah.of_below Bt).alloc _).trans dH);have D9:=aa (D1.out.lens HS.out C9.out);have L9:=aa qY;have z9:=C9.out.size;(try replace P9:Hid (af w9 w1.heap.size 100 #[.pointer none,.int .u64 0,.int .u64 0,.pointer none,.int .i64 0,.pointer none,.int .i64 0]):=aa (af.aA P9.out dH (ik _ (by omega))));(try have P8:Hid (af w9 wt.heap.size 100 #[.pointer none,.int .u64 0,.int .u64 0,.pointer none,.int .i64 0,.pointer none,.int .i64 0]):=aa (af.aA (af.new wt _ _) dH (ik _ (by omega))));(have p9:=bY P8.out);(try have MO:=p9.1);(try have MN:=p9.2.1);(try have MM:=p9.2.2.1);(try have ML:=p9.2.2.2.1);(try have MJ:=p9.2.2.2.2.1);(try have MI:=p9.2.2.2.2.2.1);(try have MH:=p9.2.2.2.2.2.2);(try clear p9);(have UA:=λj=>P8.out.frozen j);(have TZ:=P8.out.lt)));refine hK.out _ _ ?_;clear hK K
   try refine bF ?_
   refine iC λK hK=>?_;go_wp2_with (fail);refine hK.out _ _ ?_;clear hK K
   try refine bF ?_
   refine bP ?_
   rotate_left 1
   rotate_right 2
   rotate_left 2
   (go_wp2_with (fail);refine eQ hK (h:=?_);clear hK K)
   try refine bF ?_
   refine qU λK hK=>?_;go_wp2_with ((go_at_call 137;(with_reducible refine (TG.out _ (by exact D1.out.later ((aM _ _).alloc (aL _) _).drew)).mono ?_);rintro e wt ⟨rfl,hbt⟩;have Bt:Below w1.heap.size w1 wt:=(by exact (((aM _ w1).alloc (aL _) _).drew).trans (hbt.mono (by simp)));(try have P9:Hid (af wt w1.heap.size 100 #[.pointer none,.int .u64 0,.int .u64 0,.pointer none,.int .i64 0,.pointer none,.int .i64 0]):=aa (af.below (af.drew (af.new w1 _ _)) hbt (by simp)));have Xt:=X5.out.below Bt X5.out.lt;have xt:=iq Xt;have xt0:=xt.1;have xt1:=xt.2.1;have xt2:=xt.2.2.1;have xt3:=xt.2.2.2;have zxt:=Xt.lt;have Dt:=aa (D1.out.later Bt);have Lt:=aa (L1.out.later Bt);have zt:=Bt.size;clear xt Xt));refine eQ hK (h:=?_);clear hK K
   try refine bF ?_
   refine iC λK hK=>?_;go_wp2_with ((go_at_call 43;(with_reducible refine (SU.out _ (by exact Dt.out) (by exact Lt.out)).mono ?_);rintro e w9 ⟨MU,rfl,qZ,-,qY,dH⟩;have C9:Hid (ah (λb=>lp=some b) w1 w9):=aa (by exact (ah.of_below Bt).trans dH);have D9:=aa (D1.out.lens HS.out C9.out);have L9:=aa qY;have z9:=C9.out.size;(try replace P9:Hid (af w9 w1.heap.size 100 #[.pointer none,.int .u64 0,.int .u64 0,.pointer none,.int .i64 0,.pointer none,.int .i64 0]):=aa (af.aA P9.out dH (ik _ (by omega))));(try have P8:Hid (af w9 wt.heap.size 100 #[.pointer none,.int .u64 0,.int .u64 0,.pointer none,.int .i64 0,.pointer none,.int .i64 0]):=aa (af.aA (af.new wt _ _) dH (ik _ (by omega))));(have p9:=bY P9.out);(try have MO:=p9.1);(try have MN:=p9.2.1);(try have MM:=p9.2.2.1);(try have ML:=p9.2.2.2.1);(try have MJ:=p9.2.2.2.2.1);(try have MI:=p9.2.2.2.2.2.1);(try have MH:=p9.2.2.2.2.2.2);(try clear p9);(have UA:=λj=>P9.out.frozen j);(have TZ:=P9.out.lt)));refine hK.out _ _ ?_;clear hK K
   try refine bF ?_
   refine iC λK hK=>?_;go_wp2_with (fail);refine hK.out _ _ ?_;clear hK K
   try refine bF ?_
   refine bP ?_
   rotate_left 1
   rotate_right 3
   all_goals (go_wp2;go_meet)
   all_goals
    first
     | with_reducible exact ⟨_,_,rfl,qZ,by omega,af.new _ _ _,D9.out.later ((aM _ _).alloc (aL _) _),L9.out.later ((aM _ _).alloc (aL _) _),C9.out.alloc _⟩
     | with_reducible exact ⟨_,_,rfl,qZ,aL _,rz P9.out _ _ _ _ _ _ _,D9.out.aA (jG _ _ _ _ _ _ _ _ _) (λb e=>by subst e;omega) (λx hx e=>by have:=sN.out x hx;omega),L9.out.aA (jG _ _ _ _ _ _ _ _ _) (λb e e2=>by have:=Hd.out b e;omega),C9.out.trans' (jG _ _ _ _ _ _ _ _ _) (λb hb e=>by omega)⟩
     | with_reducible exact ⟨_,_,rfl,qZ,zt,rz P8.out _ _ _ _ _ _ _,D9.out.aA (jG _ _ _ _ _ _ _ _ _) (λb e=>by subst e;omega) (λx hx e=>by have:=sN.out x hx;omega),L9.out.aA (jG _ _ _ _ _ _ _ _ _) (λb e e2=>by have:=Hd.out b e;omega),C9.out.trans' (jG _ _ _ _ _ _ _ _ _) (λb hb e=>by omega)⟩
  case rest =>
   obtain ⟨P,fp,rfl,EH,hPz,hP,hD,hL,hC⟩:=hcut;have Rh:=aa EH;clear EH;have DE:=aa hD;have LE:=aa hL;have CE:=aa hC;have PE:=aa hP;have XE:=aa (X8.out.aA hC (ik _ (by omega)));have XL:=aa (X5.out.aA hC (ik _ (by omega)));obtain ⟨e0,e1,e2,e3,e4,e5,e6⟩:=bY hP;have zP:=hP.lt;have zc1:=hC.size;clear hD hL hC hP c0 c1 c2 c3 c4 c5 zc l0 l1 l2 l3 zl X5 X8 D1 L1
   go_wp2_with (first|(go_at_call 44;(with_reducible refine (EU.out _ _ _ DE.out).mono ?_);rintro e w2 ⟨rfl,hb2⟩;have P2:=PE.out.below hb2 PE.out.lt;have p2:=bY P2;have UC:=p2.1;have p21:=p2.2.1;have p22:=p2.2.2.1;have p23:=p2.2.2.2.1;have p24:=p2.2.2.2.2.1;have p25:=p2.2.2.2.2.2.1;have p26:=p2.2.2.2.2.2.2;have M6:=P2.lt;have X2:=XE.out.below hb2 XE.out.lt;have x2:=bY X2;have x20:=x2.1;have x21:=x2.2.1;have x22:=x2.2.2.1;have x23:=x2.2.2.2.1;have x24:=x2.2.2.2.2.1;have x25:=x2.2.2.2.2.2.1;have x26:=x2.2.2.2.2.2.2;have xf2:=λj=>X2.frozen j;have zX2:=X2.lt;have HB2:=aa hb2;have J8:=aa X2;have TD:=aa P2;clear p2 x2)|(refine gH rfl (fq (t:=100) rfl rfl rfl (J8.out.alloc (.cells #[.int .u64 u0,.int .u64 u1,.int .u64 u2] 46)) (by rfl) (Tryz.sizeOf100 _) (by simp [Value.oneCell'])) ?_))
   refine aJ (λWf hWf=>?_);have hR:af Wf (B5+1) 100 #[.pointer (some ⟨a (8+3*yy),0,none⟩),.int .u64 key,.int .u64 (hh:Int),.pointer uap,.int .i64 uaz,.pointer fp,.int .i64 TM]:=by rw [hWf];exact (J8.out.alloc _).setRow _
   obtain ⟨r0,r1,r2,r3,r4,r5,r6⟩:=bY hR;obtain ⟨WE,JM,fI⟩:∃WE,Below w2.heap.size w2 WE/\ah (λb=>b=B5+1) WE Wf:=⟨_,(aM _ _).alloc (aL _) _,by rw [hWf];exact (ah.refl (λb=>b=B5+1) _).setRow (.inl rfl) _⟩
   have hDA:=(DE.out.later HB2.out).later JM;refine bodyPost_ret (v := .tuple #[.agg #[.pointer (some ⟨a (8+3*yy),0,none⟩),.int .u64 key,.int .u64 (hh:Int),.pointer uap,.int .i64 uaz,.pointer fp,.int .i64 TM],.bool true]) (by simp [results,Tryz.results91,go_sem,r0,r1,r2,r3,r4,r5,r6]) rfl ⟨_,rfl,Rh.out,hDA.aA fI (λb e=>by omega) (λx hx e=>by have:=sN.out x hx;omega),((LE.out.later HB2.out).later JM).aA fI (λb e e2=>ik b (by omega) e),?_⟩;exact (((ru.out.trans CE.out).au HB2.out).au JM).trans' fI (λb hb e=>by omega)
 | false =>
  rw [hU] at EU;cases hT:s.T.has key hh with
  | true =>
   rw [hT] at EN;simp only [Bool.false_or,Bool.or_true,Bool.not_true,Bool.false_eq_true,if_false];generalize V.mI (a (9+3*yy)) key hh=uap at *
   generalize V.iQ key hh=uaz at *
   generalize V.jU key hh=TM at *
   generalize V.has key hh=uh at *
   generalize (V.bA key hh).key=u0 at *
   generalize (V.bA key hh).val=u1 at *
   generalize (V.bA key hh).hash=u2 at *
   generalize V.looks key hh=ulk at *
   generalize V.dM key hh=ufg at *
   generalize s.T.mI (a 2) key hh=ap at *
   generalize s.T.iQ key hh=az at *
   generalize s.T.jU key hh=fz at *
   generalize s.T.has key hh=th at *
   generalize (s.T.bA key hh).key=k0 at *
   generalize (s.T.bA key hh).val=k1 at *
   generalize (s.T.bA key hh).hash=k2 at *
   generalize s.T.looks key hh=lk at *
   generalize s.T.dM key hh=fg at *
   clear hU hT;go_enter Tryz.func91,Tryz.ntmps91
   go_upto_region 5 with (go_at_call 106;(with_reducible refine (RD.out _ (HD.out.later (by go_grown))).mono ?_);rintro e w1 ⟨rfl,rfl⟩)
   refine bG (λw1 hw1=>?_);have hb1:Below w.heap.size w w1:=by rw [hw1];go_grown
   obtain ⟨B5,jL⟩:=dC w.heap.size;have X5:=aa (show af w1 B5 50 #[.pointer q,.int .i64 x,.int .i64 y,.int .i64 z] by rw [hw1,jL];exact (af.new _ _ _).alloc _);have X8:=aa (show af w1 (B5+1) 100 #[.pointer none,.int .u64 0,.int .u64 0,.pointer none,.int .i64 0,.pointer none,.int .i64 0] by rw [hw1,jL];exact af.aF (by simp));have D1:=aa (HD.out.later hb1);have L1:=aa (HL.out.later hb1);have abM:B5+1+1<=w1.heap.size:=by rw [hw1,jL];simp
   have Sz:w.heap.size<=B5:=Nat.le_of_eq jL.symm;have ik:∀b,B5<=b->¬lp=some b:=λb hb e=>by have:=(HL.out b e).lt;omega
   have IA:=aa D1.out.lt;have HLZ:=aa (show ∀b,lp=some b->b<w1.heap.size from λb e=>(L1.out b e).lt);have sN:=aa (show ∀x,Used s.k true x->a x<B5 from λx hx=>by have:=HD.out.lt x hx;omega);have Hd:=aa (show ∀b,lp=some b->b<B5 from λb e=>by have:=(HL.out b e).lt;omega);rw [<-jL];replace jL:=aa jL;replace hw1:=aa hw1;have ru:=aa (show ah (λb=>lp=some b) w w1 from ah.of_below hb1);clear hb1;obtain ⟨c0,c1,c2,c3,c4,c5,zc⟩:=D1.out.cells;obtain ⟨l0,l1,l2,l3⟩:=iq X5.out;have zl:=X5.out.lt;have hn0:¬lp=some (a 0):=λe=>(HS.out _ e).2 0 (.fH (by decide)) rfl;have QN:¬lp=some B5:=ik _ (aL _);go_cut [13] (λv13 wx => ∃ (P:Nat) (fp:Option Addr),v13 = .pointer (some ⟨P,0,none⟩)/\(0<=TM->fp=some ⟨a (9+3*yy),ufg*25,none⟩)/\w1.heap.size<=P/\af wx P 100 #[.pointer (some ⟨a (8+3*yy),0,none⟩),.int .u64 key,.int .u64 (hh:Int),.pointer uap,.int .i64 uaz,.pointer fp,.int .i64 TM]/\jm wx a s aT dz cap5 tk E w0/\LW wx lp (addN mt x y z ulk)/\ah (λb=>lp=some b) w1 wx)
   case first =>
    refine cZ (λb=>lp=some b) #[⟨0,0,2^37,1,0⟩,⟨1,1,2^38,2^37,0⟩,⟨2,3,2^39,2^38,0⟩,⟨4,7,2^40,2^39,1⟩,⟨0,0,2^41,8,0⟩,⟨24,31,2^42,(2^40+2^41),2⟩,⟨0,0,2^43,32,1⟩,⟨0,0,2^44,4,0⟩,⟨0,0,2^45,8,0⟩,⟨480,511,2^46,65970697666560,3⟩,⟨0,0,8192,0,2⟩,⟨2047,2047,0,(2^13+2^46),3⟩] 72 (.step 0 0 (.step 1 0 (.step 2 0 (.step 3 1 (.step 4 0 (.step 6 1 (.step 7 0 (.step 8 0 (.fork (.alt 5 (.fork (.alt 9 (.step 10 2 (.step 11 3 bu.done)) (.alt 10 (.step 9 3 (.step 11 3 bu.done)) bu.none))) (.alt 10 (.step 5 2 (.step 9 3 (.step 11 3 bu.done))) bu.none))))))))))) (by kernel_rfl) (by kernel_rfl) (by kernel_rfl) (by kernel_rfl) (by kernel_rfl) (by kernel_rfl) (λc a d v w h=>by cases d <;> exact h) ?_;refine cO ?_;refine cO ?_;refine cO ?_;refine qV Tryz.underlying163 ?_
    try refine bF ?_;refine cO ?_
    refine ztL [_,_,_,_] Tryz.underlying50 ?_
    try refine bF ?_;refine cO ?_;refine cO ?_
    refine BH (λK hK=>?_) λK hK=>?_
    (go_wp2_with ((go_at_call 137;(with_reducible refine (TG.out _ (by exact D1.out.later (aM _ _).drew)).mono ?_);rintro e wt ⟨rfl,hbt⟩;have Bt:Below w1.heap.size w1 wt:=(by exact Below.bS hbt);(try have P9:Hid (af wt w1.heap.size 100 #[.pointer none,.int .u64 0,.int .u64 0,.pointer none,.int .i64 0,.pointer none,.int .i64 0]):=aa (af.below (af.drew (af.new w1 _ _)) hbt (by simp)));have Xt:=X5.out.below Bt X5.out.lt;have xt:=iq Xt;have xt0:=xt.1;have xt1:=xt.2.1;have xt2:=xt.2.2.1;have xt3:=xt.2.2.2;have zxt:=Xt.lt;have Dt:=aa (D1.out.later Bt);have Lt:=aa (L1.out.later Bt);have zt:=Bt.size;clear xt Xt));refine eQ hK (h:=?_);clear hK K)
    try refine bF ?_
    refine BH (λK hK=>?_) λK hK=>?_
    (go_wp2_with ((go_at_call 43;(with_reducible refine (SU.out _ (by exact Dt.out) (by exact Lt.out)).mono ?_);rintro e w9 ⟨MU,rfl,qZ,-,qY,dH⟩;have C9:Hid (ah (λb=>lp=some b) w1 w9):=aa (by exact (ah.of_below Bt).trans dH);have D9:=aa (D1.out.lens HS.out C9.out);have L9:=aa qY;have z9:=C9.out.size;(try replace P9:Hid (af w9 w1.heap.size 100 #[.pointer none,.int .u64 0,.int .u64 0,.pointer none,.int .i64 0,.pointer none,.int .i64 0]):=aa (af.aA P9.out dH (ik _ (by omega))));(try have P8:Hid (af w9 wt.heap.size 100 #[.pointer none,.int .u64 0,.int .u64 0,.pointer none,.int .i64 0,.pointer none,.int .i64 0]):=aa (af.aA (af.new wt _ _) dH (ik _ (by omega))));(skip);(try have MO:=p9.1);(try have MN:=p9.2.1);(try have MM:=p9.2.2.1);(try have ML:=p9.2.2.2.1);(try have MJ:=p9.2.2.2.2.1);(try have MI:=p9.2.2.2.2.2.1);(try have MH:=p9.2.2.2.2.2.2);(try clear p9);(skip);(skip)));refine eQ hK (h:=?_);clear hK K)
    try refine bF ?_
    refine qU λK hK=>?_;go_wp2_with (fail);refine eQ hK (h:=?_);clear hK K
    try refine bF ?_
    refine iC λK hK=>?_;go_wp2_with (fail);refine hK.out _ _ ?_;clear hK K
    try refine bF ?_
    refine bP ?_
    rotate_left 1
    (go_wp2_with (fail);refine eQ hK (h:=?_);clear hK K)
    try refine bF ?_
    refine iC λK hK=>?_;go_wp2_with ((go_at_call 43;(with_reducible refine (SU.out _ (by exact Dt.out.later ((aM _ _).alloc (aL _) _)) (by exact Lt.out.later ((aM _ _).alloc (aL _) _))).mono ?_);rintro e w9 ⟨MU,rfl,qZ,-,qY,dH⟩;have C9:Hid (ah (λb=>lp=some b) w1 w9):=aa (by exact ((ah.of_below Bt).alloc _).trans dH);have D9:=aa (D1.out.lens HS.out C9.out);have L9:=aa qY;have z9:=C9.out.size;(try replace P9:Hid (af w9 w1.heap.size 100 #[.pointer none,.int .u64 0,.int .u64 0,.pointer none,.int .i64 0,.pointer none,.int .i64 0]):=aa (af.aA P9.out dH (ik _ (by omega))));(try have P8:Hid (af w9 wt.heap.size 100 #[.pointer none,.int .u64 0,.int .u64 0,.pointer none,.int .i64 0,.pointer none,.int .i64 0]):=aa (af.aA (af.new wt _ _) dH (ik _ (by omega))));(have p9:=bY P8.out);(try have MO:=p9.1);(try have MN:=p9.2.1);(try have MM:=p9.2.2.1);(try have ML:=p9.2.2.2.1);(try have MJ:=p9.2.2.2.2.1);(try have MI:=p9.2.2.2.2.2.1);(try have MH:=p9.2.2.2.2.2.2);(try clear p9);(have UA:=λj=>P8.out.frozen j);(have TZ:=P8.out.lt)));refine hK.out _ _ ?_;clear hK K
    try refine bF ?_
    refine iC λK hK=>?_;go_wp2_with (fail);refine hK.out _ _ ?_;clear hK K
    try refine bF ?_
    refine bP ?_
    rotate_left 1
    rotate_right 2
    rotate_left 2
    (go_wp2_with (fail);refine eQ hK (h:=?_);clear hK K)
    try refine bF ?_
    refine qU λK hK=>?_;go_wp2_with ((go_at_call 137;(with_reducible refine (TG.out _ (by exact D1.out.later ((aM _ _).alloc (aL _) _).drew)).mono ?_);rintro e wt ⟨rfl,hbt⟩;have Bt:Below w1.heap.size w1 wt:=(by exact (((aM _ w1).alloc (aL _) _).drew).trans (hbt.mono (by simp)));(try have P9:Hid (af wt w1.heap.size 100 #[.pointer none,.int .u64 0,.int .u64 0,.pointer none,.int .i64 0,.pointer none,.int .i64 0]):=aa (af.below (af.drew (af.new w1 _ _)) hbt (by simp)));have Xt:=X5.out.below Bt X5.out.lt;have xt:=iq Xt;have xt0:=xt.1;have xt1:=xt.2.1;have xt2:=xt.2.2.1;have xt3:=xt.2.2.2;have zxt:=Xt.lt;have Dt:=aa (D1.out.later Bt);have Lt:=aa (L1.out.later Bt);have zt:=Bt.size;clear xt Xt));refine eQ hK (h:=?_);clear hK K
    try refine bF ?_
    refine iC λK hK=>?_;go_wp2_with ((go_at_call 43;(with_reducible refine (SU.out _ (by exact Dt.out) (by exact Lt.out)).mono ?_);rintro e w9 ⟨MU,rfl,qZ,-,qY,dH⟩;have C9:Hid (ah (λb=>lp=some b) w1 w9):=aa (by exact (ah.of_below Bt).trans dH);have D9:=aa (D1.out.lens HS.out C9.out);have L9:=aa qY;have z9:=C9.out.size;(try replace P9:Hid (af w9 w1.heap.size 100 #[.pointer none,.int .u64 0,.int .u64 0,.pointer none,.int .i64 0,.pointer none,.int .i64 0]):=aa (af.aA P9.out dH (ik _ (by omega))));(try have P8:Hid (af w9 wt.heap.size 100 #[.pointer none,.int .u64 0,.int .u64 0,.pointer none,.int .i64 0,.pointer none,.int .i64 0]):=aa (af.aA (af.new wt _ _) dH (ik _ (by omega))));(have p9:=bY P9.out);(try have MO:=p9.1);(try have MN:=p9.2.1);(try have MM:=p9.2.2.1);(try have ML:=p9.2.2.2.1);(try have MJ:=p9.2.2.2.2.1);(try have MI:=p9.2.2.2.2.2.1);(try have MH:=p9.2.2.2.2.2.2);(try clear p9);(have UA:=λj=>P9.out.frozen j);(have TZ:=P9.out.lt)));refine hK.out _ _ ?_;clear hK K
    try refine bF ?_
    refine iC λK hK=>?_;go_wp2_with (fail);refine hK.out _ _ ?_;clear hK K
    try refine bF ?_
    refine bP ?_
    rotate_left 1
    rotate_right 3
    all_goals (go_wp2;go_meet)
    all_goals
     first
      | with_reducible exact ⟨_,_,rfl,qZ,by omega,af.new _ _ _,D9.out.later ((aM _ _).alloc (aL _) _),L9.out.later ((aM _ _).alloc (aL _) _),C9.out.alloc _⟩
      | with_reducible exact ⟨_,_,rfl,qZ,aL _,rz P9.out _ _ _ _ _ _ _,D9.out.aA (jG _ _ _ _ _ _ _ _ _) (λb e=>by subst e;omega) (λx hx e=>by have:=sN.out x hx;omega),L9.out.aA (jG _ _ _ _ _ _ _ _ _) (λb e e2=>by have:=Hd.out b e;omega),C9.out.trans' (jG _ _ _ _ _ _ _ _ _) (λb hb e=>by omega)⟩
      | with_reducible exact ⟨_,_,rfl,qZ,zt,rz P8.out _ _ _ _ _ _ _,D9.out.aA (jG _ _ _ _ _ _ _ _ _) (λb e=>by subst e;omega) (λx hx e=>by have:=sN.out x hx;omega),L9.out.aA (jG _ _ _ _ _ _ _ _ _) (λb e e2=>by have:=Hd.out b e;omega),C9.out.trans' (jG _ _ _ _ _ _ _ _ _) (λb hb e=>by omega)⟩
   case rest =>
    obtain ⟨P,fp,rfl,EH,hPz,hP,hD,hL,hC⟩:=hcut;have Rh:=aa EH;clear EH;have DE:=aa hD;have LE:=aa hL;have CE:=aa hC;have PE:=aa hP;have XE:=aa (X8.out.aA hC (ik _ (by omega)));have XL:=aa (X5.out.aA hC (ik _ (by omega)));obtain ⟨e0,e1,e2,e3,e4,e5,e6⟩:=bY hP;have zP:=hP.lt;have zc1:=hC.size;clear hD hL hC hP c0 c1 c2 c3 c4 c5 zc l0 l1 l2 l3 zl X5 X8 D1 L1;go_upto_region 9 with (go_at_call 44;(with_reducible refine (EU.out _ _ _ DE.out).mono ?_);rintro e w2 ⟨rfl,hb2⟩;have P2:=PE.out.below hb2 PE.out.lt;have p2:=bY P2;have UC:=p2.1;have p21:=p2.2.1;have p22:=p2.2.2.1;have p23:=p2.2.2.2.1;have p24:=p2.2.2.2.2.1;have p25:=p2.2.2.2.2.2.1;have p26:=p2.2.2.2.2.2.2;have M6:=P2.lt;have X2:=XE.out.below hb2 XE.out.lt;have x2:=bY X2;have x20:=x2.1;have x21:=x2.2.1;have x22:=x2.2.2.1;have x23:=x2.2.2.2.1;have x24:=x2.2.2.2.2.1;have x25:=x2.2.2.2.2.2.1;have x26:=x2.2.2.2.2.2.2;have xf2:=λj=>X2.frozen j;have zX2:=X2.lt;have HB2:=aa hb2;have J8:=aa X2;have TD:=aa P2;clear p2 x2)
    refine bG (λw3 hw3=>?_);obtain ⟨WE,JM,fI⟩:∃WE,Below w2.heap.size w2 WE/\Below WE.heap.size WE w3:=⟨_,(aM _ _).alloc (aL _) _,by rw [hw3];exact aM _ _⟩
    have hb3:Below w2.heap.size w2 w3:=JM.trans (fI.mono JM.size);replace hw3:=aa hw3;have D3:=aa ((DE.out.later HB2.out).later hb3);have L3:=aa ((LE.out.later HB2.out).later hb3);have P3:=aa (TD.out.below hb3 TD.out.lt);have X3:=aa (J8.out.below hb3 J8.out.lt);have XL3:=aa ((XL.out.below HB2.out XL.out.lt).below hb3 (XL.out.below HB2.out XL.out.lt).lt);have CE3:=aa ((CE.out.au HB2.out).au hb3);have ajr:=CE3.out.size;clear fI JM hb3 UC p21 p22 p23 p24 p25 p26 M6 x20 x21 x22 x23 x24 x25 x26 xf2 zX2 e0 e1 e2 e3 e4 e5 e6 zP HB2 J8 TD DE LE CE PE XE XL;obtain ⟨c0,c1,c2,c3,c4,c5,zc⟩:=D3.out.cells;obtain ⟨l0,l1,l2,l3⟩:=iq XL3.out;have zl:=XL3.out.lt;go_cut [16] (λv16 wx => ∃ (P:Nat) (fp:Option Addr),v16 = .pointer (some ⟨P,0,none⟩)/\(0<=fz->fp=some ⟨a 2,fg*25,none⟩)/\w3.heap.size<=P/\af wx P 100 #[.pointer (some ⟨a 1,0,none⟩),.int .u64 key,.int .u64 (hh:Int),.pointer ap,.int .i64 az,.pointer fp,.int .i64 fz]/\jm wx a s aT dz cap5 tk E w0/\LW wx lp (addN (addN mt x y z ulk) x y z lk)/\ah (λb=>lp=some b) w3 wx)
    case first =>
     refine cZ (λb=>lp=some b) #[⟨0,0,2^54,1,0⟩,⟨1,1,2^55,2^54,0⟩,⟨2,3,2^56,2^55,0⟩,⟨4,7,2^57,2^56,1⟩,⟨0,0,2^58,32,1⟩,⟨0,0,2^59,4,0⟩,⟨0,0,2^60,8,0⟩,⟨120,127,2^61,2161727821137838080,3⟩,⟨0,0,2^16,0,2⟩,⟨511,511,0,(2^16+2^61),3⟩] 24 (.step 0 0 (.step 1 0 (.step 2 0 (.step 3 1 (.step 4 1 (.step 5 0 (.step 6 0 (.fork (.alt 7 (.step 8 2 (.step 9 3 bu.done)) (.alt 8 (.step 7 3 (.step 9 3 bu.done)) bu.none)))))))))) (by kernel_rfl) (by kernel_rfl) (by kernel_rfl) (by kernel_rfl) (by kernel_rfl) (by kernel_rfl) (λc a d v w h=>by cases d <;> exact h) ?_;refine cO ?_;refine cO ?_;refine cO ?_;refine qV Tryz.underlying85 ?_
     try refine bF ?_
     refine ztL [_,_,_,_] Tryz.underlying50 ?_
     try refine bF ?_;refine cO ?_;refine cO ?_
     refine BH (λK hK=>?_) λK hK=>?_
     (go_wp2_with ((go_at_call 43;(with_reducible refine (SK.out _ _ (by exact D3.out.later (aM _ _).drew) (by exact L3.out.later (aM _ _).drew)).mono ?_);rintro e w9 ⟨MU,rfl,qZ,-,qY,dH⟩;have C9:Hid (ah (λb=>lp=some b) w3 w9):=aa (by exact dH.bS);have D9:=aa (D3.out.lens HS.out C9.out);have L9:=aa qY;have z9:=C9.out.size;(try have P9:Hid (af w9 w3.heap.size 100 #[.pointer none,.int .u64 0,.int .u64 0,.pointer none,.int .i64 0,.pointer none,.int .i64 0]):=aa (af.aA (af.drew (af.new w3 _ _)) dH (ik _ (by omega))));(skip);(try have MO:=p9.1);(try have MN:=p9.2.1);(try have MM:=p9.2.2.1);(try have ML:=p9.2.2.2.1);(try have MJ:=p9.2.2.2.2.1);(try have MI:=p9.2.2.2.2.2.1);(try have MH:=p9.2.2.2.2.2.2);(try clear p9);(skip);(skip)));refine eQ hK (h:=?_);clear hK K)
     try refine bF ?_
     refine qU λK hK=>?_;go_wp2_with (fail);refine eQ hK (h:=?_);clear hK K
     try refine bF ?_
     refine iC λK hK=>?_;go_wp2_with (fail);refine hK.out _ _ ?_;clear hK K
     try refine bF ?_
     refine bP ?_
     rotate_left 1
     (go_wp2_with (fail);refine eQ hK (h:=?_);clear hK K)
     try refine bF ?_
     refine iC λK hK=>?_;go_wp2_with ((go_at_call 43;(with_reducible refine (SK.out _ _ (by exact D3.out.later ((aM _ _).alloc (aL _) _).drew) (by exact L3.out.later ((aM _ _).alloc (aL _) _).drew)).mono ?_);rintro e w9 ⟨MU,rfl,qZ,-,qY,dH⟩;have C9:Hid (ah (λb=>lp=some b) w3 w9):=aa (by exact (((ah.refl _ w3).alloc _).drew).trans dH);have D9:=aa (D3.out.lens HS.out C9.out);have L9:=aa qY;have z9:=C9.out.size;(try have P9:Hid (af w9 w3.heap.size 100 #[.pointer none,.int .u64 0,.int .u64 0,.pointer none,.int .i64 0,.pointer none,.int .i64 0]):=aa (af.aA (af.drew (af.new w3 _ _)) dH (ik _ (by omega))));(have p9:=bY P9.out);(try have MO:=p9.1);(try have MN:=p9.2.1);(try have MM:=p9.2.2.1);(try have ML:=p9.2.2.2.1);(try have MJ:=p9.2.2.2.2.1);(try have MI:=p9.2.2.2.2.2.1);(try have MH:=p9.2.2.2.2.2.2);(try clear p9);(have UA:=λj=>P9.out.frozen j);(have TZ:=P9.out.lt)));refine hK.out _ _ ?_;clear hK K
     try refine bF ?_
     refine iC λK hK=>?_;go_wp2_with (fail);refine hK.out _ _ ?_;clear hK K
     try refine bF ?_
     refine bP ?_
     rotate_left 1
     rotate_right 2
     all_goals (go_wp2;go_meet)
     all_goals
      first
       | with_reducible exact ⟨_,_,rfl,qZ,by omega,af.new _ _ _,D9.out.later ((aM _ _).alloc (aL _) _),L9.out.later ((aM _ _).alloc (aL _) _),C9.out.alloc _⟩
       | with_reducible exact ⟨_,_,rfl,qZ,aL _,rz P9.out _ _ _ _ _ _ _,D9.out.aA (jG _ _ _ _ _ _ _ _ _) (λb e=>by subst e;omega) (λx hx e=>by have:=sN.out x hx;omega),L9.out.aA (jG _ _ _ _ _ _ _ _ _) (λb e e2=>by have:=Hd.out b e;omega),C9.out.trans' (jG _ _ _ _ _ _ _ _ _) (λb hb e=>by omega)⟩
    case rest =>
     obtain ⟨P4,fp4,rfl,LP,ajk,hP4,hD4,hL4,Vq⟩:=hcut;have ag7:=aa LP;clear LP;have DE:=aa hD4;have LE:=aa hL4;have CE:=aa (CE3.out.trans Vq);have PE:=aa hP4;have XE:=aa (X3.out.aA Vq (ik _ (by omega)));have PU:=aa (P3.out.aA Vq (ik _ (by omega)));obtain ⟨e0,e1,e2,e3,e4,e5,e6⟩:=bY hP4;have zP:=hP4.lt;have zc4:=Vq.size;rw [nW] at LE;clear hD4 hL4 Vq hP4 c0 c1 c2 c3 c4 c5 zc l0 l1 l2 l3 zl X3 P3 XL3 D3 L3 CE3
     go_wp2_with (first|(go_at_call 44;(with_reducible refine (EN.out _ _ _ DE.out).mono ?_);rintro e w2 ⟨rfl,hb2⟩;have P2:=PE.out.below hb2 PE.out.lt;have p2:=bY P2;have UC:=p2.1;have p21:=p2.2.1;have p22:=p2.2.2.1;have p23:=p2.2.2.2.1;have p24:=p2.2.2.2.2.1;have p25:=p2.2.2.2.2.2.1;have p26:=p2.2.2.2.2.2.2;have M6:=P2.lt;have X2:=XE.out.below hb2 XE.out.lt;have x2:=bY X2;have x20:=x2.1;have x21:=x2.2.1;have x22:=x2.2.2.1;have x23:=x2.2.2.2.1;have x24:=x2.2.2.2.2.1;have x25:=x2.2.2.2.2.2.1;have x26:=x2.2.2.2.2.2.2;have xf2:=λj=>X2.frozen j;have zX2:=X2.lt;have HB2:=aa hb2;have J8:=aa X2;have TD:=aa P2;clear p2 x2)|(refine gH rfl (fq (t:=100) rfl rfl rfl (J8.out.alloc (.cells #[.int .u64 k0,.int .u64 k1,.int .u64 k2] 46)) (by rfl) (Tryz.sizeOf100 _) (by simp [Value.oneCell'])) ?_))
     refine aJ (λWf hWf=>?_);have hR:af Wf (B5+1) 100 #[.pointer (some ⟨a 1,0,none⟩),.int .u64 key,.int .u64 (hh:Int),.pointer ap,.int .i64 az,.pointer fp4,.int .i64 fz]:=by rw [hWf];exact (J8.out.alloc _).setRow _
     obtain ⟨r0,r1,r2,r3,r4,r5,r6⟩:=bY hR;obtain ⟨WE,JM,fI⟩:∃WE,Below w2.heap.size w2 WE/\ah (λb=>b=B5+1) WE Wf:=⟨_,(aM _ _).alloc (aL _) _,by rw [hWf];exact (ah.refl (λb=>b=B5+1) _).setRow (.inl rfl) _⟩
     have hDA:=(DE.out.later HB2.out).later JM;refine bodyPost_ret (v := .tuple #[.agg #[.pointer (some ⟨a 1,0,none⟩),.int .u64 key,.int .u64 (hh:Int),.pointer ap,.int .i64 az,.pointer fp4,.int .i64 fz],.bool true]) (by simp [results,Tryz.results91,go_sem,r0,r1,r2,r3,r4,r5,r6]) rfl ⟨_,rfl,ag7.out,hDA.aA fI (λb e=>by omega) (λx hx e=>by have:=sN.out x hx;omega),((LE.out.later HB2.out).later JM).aA fI (λb e e2=>ik b (by omega) e),?_⟩;exact (((ru.out.trans CE.out).au HB2.out).au JM).trans' fI (λb hb e=>by omega)
  | false =>
   rw [hT] at EN;simp only [Bool.false_or,Bool.or_false,Bool.not_false,Bool.false_eq_true,if_true,if_false];generalize V.mI (a (9+3*yy)) key hh=uap at *
   generalize V.iQ key hh=uaz at *
   generalize V.jU key hh=TM at *
   generalize V.has key hh=uh at *
   generalize (V.bA key hh).key=u0 at *
   generalize (V.bA key hh).val=u1 at *
   generalize (V.bA key hh).hash=u2 at *
   generalize V.looks key hh=ulk at *
   generalize V.dM key hh=ufg at *
   generalize s.T.mI (a 2) key hh=ap at *
   generalize s.T.iQ key hh=az at *
   generalize s.T.jU key hh=fz at *
   generalize s.T.has key hh=th at *
   generalize (s.T.bA key hh).key=k0 at *
   generalize (s.T.bA key hh).val=k1 at *
   generalize (s.T.bA key hh).hash=k2 at *
   generalize s.T.looks key hh=lk at *
   generalize s.T.dM key hh=fg at *
   clear hU hT;go_enter Tryz.func91,Tryz.ntmps91
   go_upto_region 5 with (go_at_call 106;(with_reducible refine (RD.out _ (HD.out.later (by go_grown))).mono ?_);rintro e w1 ⟨rfl,rfl⟩)
   refine bG (λw1 hw1=>?_);have hb1:Below w.heap.size w w1:=by rw [hw1];go_grown
   obtain ⟨B5,jL⟩:=dC w.heap.size;have X5:=aa (show af w1 B5 50 #[.pointer q,.int .i64 x,.int .i64 y,.int .i64 z] by rw [hw1,jL];exact (af.new _ _ _).alloc _);have X8:=aa (show af w1 (B5+1) 100 #[.pointer none,.int .u64 0,.int .u64 0,.pointer none,.int .i64 0,.pointer none,.int .i64 0] by rw [hw1,jL];exact af.aF (by simp));have D1:=aa (HD.out.later hb1);have L1:=aa (HL.out.later hb1);have abM:B5+1+1<=w1.heap.size:=by rw [hw1,jL];simp
   have Sz:w.heap.size<=B5:=Nat.le_of_eq jL.symm;have ik:∀b,B5<=b->¬lp=some b:=λb hb e=>by have:=(HL.out b e).lt;omega
   have IA:=aa D1.out.lt;have HLZ:=aa (show ∀b,lp=some b->b<w1.heap.size from λb e=>(L1.out b e).lt);have sN:=aa (show ∀x,Used s.k true x->a x<B5 from λx hx=>by have:=HD.out.lt x hx;omega);have Hd:=aa (show ∀b,lp=some b->b<B5 from λb e=>by have:=(HL.out b e).lt;omega);rw [<-jL];replace jL:=aa jL;replace hw1:=aa hw1;have ru:=aa (show ah (λb=>lp=some b) w w1 from ah.of_below hb1);clear hb1;obtain ⟨c0,c1,c2,c3,c4,c5,zc⟩:=D1.out.cells;obtain ⟨l0,l1,l2,l3⟩:=iq X5.out;have zl:=X5.out.lt;have hn0:¬lp=some (a 0):=λe=>(HS.out _ e).2 0 (.fH (by decide)) rfl;have QN:¬lp=some B5:=ik _ (aL _);go_cut [13] (λv13 wx => ∃ (P:Nat) (fp:Option Addr),v13 = .pointer (some ⟨P,0,none⟩)/\(0<=TM->fp=some ⟨a (9+3*yy),ufg*25,none⟩)/\w1.heap.size<=P/\af wx P 100 #[.pointer (some ⟨a (8+3*yy),0,none⟩),.int .u64 key,.int .u64 (hh:Int),.pointer uap,.int .i64 uaz,.pointer fp,.int .i64 TM]/\jm wx a s aT dz cap5 tk E w0/\LW wx lp (addN mt x y z ulk)/\ah (λb=>lp=some b) w1 wx)
   case first =>
    refine cZ (λb=>lp=some b) #[⟨0,0,2^37,1,0⟩,⟨1,1,2^38,2^37,0⟩,⟨2,3,2^39,2^38,0⟩,⟨4,7,2^40,2^39,1⟩,⟨0,0,2^41,8,0⟩,⟨24,31,2^42,(2^40+2^41),2⟩,⟨0,0,2^43,32,1⟩,⟨0,0,2^44,4,0⟩,⟨0,0,2^45,8,0⟩,⟨480,511,2^46,65970697666560,3⟩,⟨0,0,8192,0,2⟩,⟨2047,2047,0,(2^13+2^46),3⟩] 72 (.step 0 0 (.step 1 0 (.step 2 0 (.step 3 1 (.step 4 0 (.step 6 1 (.step 7 0 (.step 8 0 (.fork (.alt 5 (.fork (.alt 9 (.step 10 2 (.step 11 3 bu.done)) (.alt 10 (.step 9 3 (.step 11 3 bu.done)) bu.none))) (.alt 10 (.step 5 2 (.step 9 3 (.step 11 3 bu.done))) bu.none))))))))))) (by kernel_rfl) (by kernel_rfl) (by kernel_rfl) (by kernel_rfl) (by kernel_rfl) (by kernel_rfl) (λc a d v w h=>by cases d <;> exact h) ?_;refine cO ?_;refine cO ?_;refine cO ?_;refine qV Tryz.underlying163 ?_
    try refine bF ?_;refine cO ?_
    refine ztL [_,_,_,_] Tryz.underlying50 ?_
    try refine bF ?_;refine cO ?_;refine cO ?_
    refine BH (λK hK=>?_) λK hK=>?_
    (go_wp2_with ((go_at_call 137;(with_reducible refine (TG.out _ (by exact D1.out.later (aM _ _).drew)).mono ?_);rintro e wt ⟨rfl,hbt⟩;have Bt:Below w1.heap.size w1 wt:=(by exact Below.bS hbt);(try have P9:Hid (af wt w1.heap.size 100 #[.pointer none,.int .u64 0,.int .u64 0,.pointer none,.int .i64 0,.pointer none,.int .i64 0]):=aa (af.below (af.drew (af.new w1 _ _)) hbt (by simp)));have Xt:=X5.out.below Bt X5.out.lt;have xt:=iq Xt;have xt0:=xt.1;have xt1:=xt.2.1;have xt2:=xt.2.2.1;have xt3:=xt.2.2.2;have zxt:=Xt.lt;have Dt:=aa (D1.out.later Bt);have Lt:=aa (L1.out.later Bt);have zt:=Bt.size;clear xt Xt));refine eQ hK (h:=?_);clear hK K)
    try refine bF ?_
    refine BH (λK hK=>?_) λK hK=>?_
    (go_wp2_with ((go_at_call 43;(with_reducible refine (SU.out _ (by exact Dt.out) (by exact Lt.out)).mono ?_);rintro e w9 ⟨MU,rfl,qZ,-,qY,dH⟩;have C9:Hid (ah (λb=>lp=some b) w1 w9):=aa (by exact (ah.of_below Bt).trans dH);have D9:=aa (D1.out.lens HS.out C9.out);have L9:=aa qY;have z9:=C9.out.size;(try replace P9:Hid (af w9 w1.heap.size 100 #[.pointer none,.int .u64 0,.int .u64 0,.pointer none,.int .i64 0,.pointer none,.int .i64 0]):=aa (af.aA P9.out dH (ik _ (by omega))));(try have P8:Hid (af w9 wt.heap.size 100 #[.pointer none,.int .u64 0,.int .u64 0,.pointer none,.int .i64 0,.pointer none,.int .i64 0]):=aa (af.aA (af.new wt _ _) dH (ik _ (by omega))));(skip);(try have MO:=p9.1);(try have MN:=p9.2.1);(try have MM:=p9.2.2.1);(try have ML:=p9.2.2.2.1);(try have MJ:=p9.2.2.2.2.1);(try have MI:=p9.2.2.2.2.2.1);(try have MH:=p9.2.2.2.2.2.2);(try clear p9);(skip);(skip)));refine eQ hK (h:=?_);clear hK K)
    try refine bF ?_
    refine qU λK hK=>?_;go_wp2_with (fail);refine eQ hK (h:=?_);clear hK K
    try refine bF ?_
    refine iC λK hK=>?_;go_wp2_with (fail);refine hK.out _ _ ?_;clear hK K
    try refine bF ?_
    refine bP ?_
    rotate_left 1
    (go_wp2_with (fail);refine eQ hK (h:=?_);clear hK K)
    try refine bF ?_
    refine iC λK hK=>?_;go_wp2_with ((go_at_call 43;(with_reducible refine (SU.out _ (by exact Dt.out.later ((aM _ _).alloc (aL _) _)) (by exact Lt.out.later ((aM _ _).alloc (aL _) _))).mono ?_);rintro e w9 ⟨MU,rfl,qZ,-,qY,dH⟩;have C9:Hid (ah (λb=>lp=some b) w1 w9):=aa (by exact ((ah.of_below Bt).alloc _).trans dH);have D9:=aa (D1.out.lens HS.out C9.out);have L9:=aa qY;have z9:=C9.out.size;(try replace P9:Hid (af w9 w1.heap.size 100 #[.pointer none,.int .u64 0,.int .u64 0,.pointer none,.int .i64 0,.pointer none,.int .i64 0]):=aa (af.aA P9.out dH (ik _ (by omega))));(try have P8:Hid (af w9 wt.heap.size 100 #[.pointer none,.int .u64 0,.int .u64 0,.pointer none,.int .i64 0,.pointer none,.int .i64 0]):=aa (af.aA (af.new wt _ _) dH (ik _ (by omega))));(have p9:=bY P8.out);(try have MO:=p9.1);(try have MN:=p9.2.1);(try have MM:=p9.2.2.1);(try have ML:=p9.2.2.2.1);(try have MJ:=p9.2.2.2.2.1);(try have MI:=p9.2.2.2.2.2.1);(try have MH:=p9.2.2.2.2.2.2);(try clear p9);(have UA:=λj=>P8.out.frozen j);(have TZ:=P8.out.lt)));refine hK.out _ _ ?_;clear hK K
    try refine bF ?_
    refine iC λK hK=>?_;go_wp2_with (fail);refine hK.out _ _ ?_;clear hK K
    try refine bF ?_
    refine bP ?_
    rotate_left 1
    rotate_right 2
    rotate_left 2
    (go_wp2_with (fail);refine eQ hK (h:=?_);clear hK K)
    try refine bF ?_
    refine qU λK hK=>?_;go_wp2_with ((go_at_call 137;(with_reducible refine (TG.out _ (by exact D1.out.later ((aM _ _).alloc (aL _) _).drew)).mono ?_);rintro e wt ⟨rfl,hbt⟩;have Bt:Below w1.heap.size w1 wt:=(by exact (((aM _ w1).alloc (aL _) _).drew).trans (hbt.mono (by simp)));(try have P9:Hid (af wt w1.heap.size 100 #[.pointer none,.int .u64 0,.int .u64 0,.pointer none,.int .i64 0,.pointer none,.int .i64 0]):=aa (af.below (af.drew (af.new w1 _ _)) hbt (by simp)));have Xt:=X5.out.below Bt X5.out.lt;have xt:=iq Xt;have xt0:=xt.1;have xt1:=xt.2.1;have xt2:=xt.2.2.1;have xt3:=xt.2.2.2;have zxt:=Xt.lt;have Dt:=aa (D1.out.later Bt);have Lt:=aa (L1.out.later Bt);have zt:=Bt.size;clear xt Xt));refine eQ hK (h:=?_);clear hK K
    try refine bF ?_
    refine iC λK hK=>?_;go_wp2_with ((go_at_call 43;(with_reducible refine (SU.out _ (by exact Dt.out) (by exact Lt.out)).mono ?_);rintro e w9 ⟨MU,rfl,qZ,-,qY,dH⟩;have C9:Hid (ah (λb=>lp=some b) w1 w9):=aa (by exact (ah.of_below Bt).trans dH);have D9:=aa (D1.out.lens HS.out C9.out);have L9:=aa qY;have z9:=C9.out.size;(try replace P9:Hid (af w9 w1.heap.size 100 #[.pointer none,.int .u64 0,.int .u64 0,.pointer none,.int .i64 0,.pointer none,.int .i64 0]):=aa (af.aA P9.out dH (ik _ (by omega))));(try have P8:Hid (af w9 wt.heap.size 100 #[.pointer none,.int .u64 0,.int .u64 0,.pointer none,.int .i64 0,.pointer none,.int .i64 0]):=aa (af.aA (af.new wt _ _) dH (ik _ (by omega))));(have p9:=bY P9.out);(try have MO:=p9.1);(try have MN:=p9.2.1);(try have MM:=p9.2.2.1);(try have ML:=p9.2.2.2.1);(try have MJ:=p9.2.2.2.2.1);(try have MI:=p9.2.2.2.2.2.1);(try have MH:=p9.2.2.2.2.2.2);(try clear p9);(have UA:=λj=>P9.out.frozen j);(have TZ:=P9.out.lt)));refine hK.out _ _ ?_;clear hK K
    try refine bF ?_
    refine iC λK hK=>?_;go_wp2_with (fail);refine hK.out _ _ ?_;clear hK K
    try refine bF ?_
    refine bP ?_
    rotate_left 1
    rotate_right 3
    all_goals (go_wp2;go_meet)
    all_goals
     first
      | with_reducible exact ⟨_,_,rfl,qZ,by omega,af.new _ _ _,D9.out.later ((aM _ _).alloc (aL _) _),L9.out.later ((aM _ _).alloc (aL _) _),C9.out.alloc _⟩
      | with_reducible exact ⟨_,_,rfl,qZ,aL _,rz P9.out _ _ _ _ _ _ _,D9.out.aA (jG _ _ _ _ _ _ _ _ _) (λb e=>by subst e;omega) (λx hx e=>by have:=sN.out x hx;omega),L9.out.aA (jG _ _ _ _ _ _ _ _ _) (λb e e2=>by have:=Hd.out b e;omega),C9.out.trans' (jG _ _ _ _ _ _ _ _ _) (λb hb e=>by omega)⟩
      | with_reducible exact ⟨_,_,rfl,qZ,zt,rz P8.out _ _ _ _ _ _ _,D9.out.aA (jG _ _ _ _ _ _ _ _ _) (λb e=>by subst e;omega) (λx hx e=>by have:=sN.out x hx;omega),L9.out.aA (jG _ _ _ _ _ _ _ _ _) (λb e e2=>by have:=Hd.out b e;omega),C9.out.trans' (jG _ _ _ _ _ _ _ _ _) (λb hb e=>by omega)⟩
   case rest =>
    obtain ⟨P,fp,rfl,EH,hPz,hP,hD,hL,hC⟩:=hcut;have Rh:=aa EH;clear EH;have DE:=aa hD;have LE:=aa hL;have CE:=aa hC;have PE:=aa hP;have XE:=aa (X8.out.aA hC (ik _ (by omega)));have XL:=aa (X5.out.aA hC (ik _ (by omega)));obtain ⟨e0,e1,e2,e3,e4,e5,e6⟩:=bY hP;have zP:=hP.lt;have zc1:=hC.size;clear hD hL hC hP c0 c1 c2 c3 c4 c5 zc l0 l1 l2 l3 zl X5 X8 D1 L1;go_upto_region 9 with (go_at_call 44;(with_reducible refine (EU.out _ _ _ DE.out).mono ?_);rintro e w2 ⟨rfl,hb2⟩;have P2:=PE.out.below hb2 PE.out.lt;have p2:=bY P2;have UC:=p2.1;have p21:=p2.2.1;have p22:=p2.2.2.1;have p23:=p2.2.2.2.1;have p24:=p2.2.2.2.2.1;have p25:=p2.2.2.2.2.2.1;have p26:=p2.2.2.2.2.2.2;have M6:=P2.lt;have X2:=XE.out.below hb2 XE.out.lt;have x2:=bY X2;have x20:=x2.1;have x21:=x2.2.1;have x22:=x2.2.2.1;have x23:=x2.2.2.2.1;have x24:=x2.2.2.2.2.1;have x25:=x2.2.2.2.2.2.1;have x26:=x2.2.2.2.2.2.2;have xf2:=λj=>X2.frozen j;have zX2:=X2.lt;have HB2:=aa hb2;have J8:=aa X2;have TD:=aa P2;clear p2 x2)
    refine bG (λw3 hw3=>?_);obtain ⟨WE,JM,fI⟩:∃WE,Below w2.heap.size w2 WE/\Below WE.heap.size WE w3:=⟨_,(aM _ _).alloc (aL _) _,by rw [hw3];exact aM _ _⟩
    have hb3:Below w2.heap.size w2 w3:=JM.trans (fI.mono JM.size);replace hw3:=aa hw3;have D3:=aa ((DE.out.later HB2.out).later hb3);have L3:=aa ((LE.out.later HB2.out).later hb3);have P3:=aa (TD.out.below hb3 TD.out.lt);have X3:=aa (J8.out.below hb3 J8.out.lt);have XL3:=aa ((XL.out.below HB2.out XL.out.lt).below hb3 (XL.out.below HB2.out XL.out.lt).lt);have CE3:=aa ((CE.out.au HB2.out).au hb3);have ajr:=CE3.out.size;clear fI JM hb3 UC p21 p22 p23 p24 p25 p26 M6 x20 x21 x22 x23 x24 x25 x26 xf2 zX2 e0 e1 e2 e3 e4 e5 e6 zP HB2 J8 TD DE LE CE PE XE XL;obtain ⟨c0,c1,c2,c3,c4,c5,zc⟩:=D3.out.cells;obtain ⟨l0,l1,l2,l3⟩:=iq XL3.out;have zl:=XL3.out.lt;go_cut [16] (λv16 wx => ∃ (P:Nat) (fp:Option Addr),v16 = .pointer (some ⟨P,0,none⟩)/\(0<=fz->fp=some ⟨a 2,fg*25,none⟩)/\w3.heap.size<=P/\af wx P 100 #[.pointer (some ⟨a 1,0,none⟩),.int .u64 key,.int .u64 (hh:Int),.pointer ap,.int .i64 az,.pointer fp,.int .i64 fz]/\jm wx a s aT dz cap5 tk E w0/\LW wx lp (addN (addN mt x y z ulk) x y z lk)/\ah (λb=>lp=some b) w3 wx)
    case first =>
     refine cZ (λb=>lp=some b) #[⟨0,0,2^54,1,0⟩,⟨1,1,2^55,2^54,0⟩,⟨2,3,2^56,2^55,0⟩,⟨4,7,2^57,2^56,1⟩,⟨0,0,2^58,32,1⟩,⟨0,0,2^59,4,0⟩,⟨0,0,2^60,8,0⟩,⟨120,127,2^61,2161727821137838080,3⟩,⟨0,0,2^16,0,2⟩,⟨511,511,0,(2^16+2^61),3⟩] 24 (.step 0 0 (.step 1 0 (.step 2 0 (.step 3 1 (.step 4 1 (.step 5 0 (.step 6 0 (.fork (.alt 7 (.step 8 2 (.step 9 3 bu.done)) (.alt 8 (.step 7 3 (.step 9 3 bu.done)) bu.none)))))))))) (by kernel_rfl) (by kernel_rfl) (by kernel_rfl) (by kernel_rfl) (by kernel_rfl) (by kernel_rfl) (λc a d v w h=>by cases d <;> exact h) ?_;refine cO ?_;refine cO ?_;refine cO ?_;refine qV Tryz.underlying85 ?_
     try refine bF ?_
     refine ztL [_,_,_,_] Tryz.underlying50 ?_
     try refine bF ?_;refine cO ?_;refine cO ?_
     refine BH (λK hK=>?_) λK hK=>?_
     (go_wp2_with ((go_at_call 43;(with_reducible refine (SK.out _ _ (by exact D3.out.later (aM _ _).drew) (by exact L3.out.later (aM _ _).drew)).mono ?_);rintro e w9 ⟨MU,rfl,qZ,-,qY,dH⟩;have C9:Hid (ah (λb=>lp=some b) w3 w9):=aa (by exact dH.bS);have D9:=aa (D3.out.lens HS.out C9.out);have L9:=aa qY;have z9:=C9.out.size;(try have P9:Hid (af w9 w3.heap.size 100 #[.pointer none,.int .u64 0,.int .u64 0,.pointer none,.int .i64 0,.pointer none,.int .i64 0]):=aa (af.aA (af.drew (af.new w3 _ _)) dH (ik _ (by omega))));(skip);(try have MO:=p9.1);(try have MN:=p9.2.1);(try have MM:=p9.2.2.1);(try have ML:=p9.2.2.2.1);(try have MJ:=p9.2.2.2.2.1);(try have MI:=p9.2.2.2.2.2.1);(try have MH:=p9.2.2.2.2.2.2);(try clear p9);(skip);(skip)));refine eQ hK (h:=?_);clear hK K)
     try refine bF ?_
     refine qU λK hK=>?_;go_wp2_with (fail);refine eQ hK (h:=?_);clear hK K
     try refine bF ?_
     refine iC λK hK=>?_;go_wp2_with (fail);refine hK.out _ _ ?_;clear hK K
     try refine bF ?_
     refine bP ?_
     rotate_left 1
     (go_wp2_with (fail);refine eQ hK (h:=?_);clear hK K)
     try refine bF ?_
     refine iC λK hK=>?_;go_wp2_with ((go_at_call 43;(with_reducible refine (SK.out _ _ (by exact D3.out.later ((aM _ _).alloc (aL _) _).drew) (by exact L3.out.later ((aM _ _).alloc (aL _) _).drew)).mono ?_);rintro e w9 ⟨MU,rfl,qZ,-,qY,dH⟩;have C9:Hid (ah (λb=>lp=some b) w3 w9):=aa (by exact (((ah.refl _ w3).alloc _).drew).trans dH);have D9:=aa (D3.out.lens HS.out C9.out);have L9:=aa qY;have z9:=C9.out.size;(try have P9:Hid (af w9 w3.heap.size 100 #[.pointer none,.int .u64 0,.int .u64 0,.pointer none,.int .i64 0,.pointer none,.int .i64 0]):=aa (af.aA (af.drew (af.new w3 _ _)) dH (ik _ (by omega))));(have p9:=bY P9.out);(try have MO:=p9.1);(try have MN:=p9.2.1);(try have MM:=p9.2.2.1);(try have ML:=p9.2.2.2.1);(try have MJ:=p9.2.2.2.2.1);(try have MI:=p9.2.2.2.2.2.1);(try have MH:=p9.2.2.2.2.2.2);(try clear p9);(have UA:=λj=>P9.out.frozen j);(have TZ:=P9.out.lt)));refine hK.out _ _ ?_;clear hK K
     try refine bF ?_
     refine iC λK hK=>?_;go_wp2_with (fail);refine hK.out _ _ ?_;clear hK K
     try refine bF ?_
     refine bP ?_
     rotate_left 1
     rotate_right 2
     all_goals (go_wp2;go_meet)
     all_goals
      first
       | with_reducible exact ⟨_,_,rfl,qZ,by omega,af.new _ _ _,D9.out.later ((aM _ _).alloc (aL _) _),L9.out.later ((aM _ _).alloc (aL _) _),C9.out.alloc _⟩
       | with_reducible exact ⟨_,_,rfl,qZ,aL _,rz P9.out _ _ _ _ _ _ _,D9.out.aA (jG _ _ _ _ _ _ _ _ _) (λb e=>by subst e;omega) (λx hx e=>by have:=sN.out x hx;omega),L9.out.aA (jG _ _ _ _ _ _ _ _ _) (λb e e2=>by have:=Hd.out b e;omega),C9.out.trans' (jG _ _ _ _ _ _ _ _ _) (λb hb e=>by omega)⟩
    case rest =>
     obtain ⟨P4,fp4,rfl,LP,ajk,hP4,hD4,hL4,Vq⟩:=hcut;have ag7:=aa LP;clear LP;have DE:=aa hD4;have LE:=aa hL4;have CE:=aa (CE3.out.trans Vq);have PE:=aa hP4;have XE:=aa (X3.out.aA Vq (ik _ (by omega)));have PU:=aa (P3.out.aA Vq (ik _ (by omega)));obtain ⟨e0,e1,e2,e3,e4,e5,e6⟩:=bY hP4;have zP:=hP4.lt;have zc4:=Vq.size;rw [nW] at LE;clear hD4 hL4 Vq hP4 c0 c1 c2 c3 c4 c5 zc l0 l1 l2 l3 zl X3 P3 XL3 D3 L3 CE3
     go_wp2_with (first|(go_at_call 44;(with_reducible refine (EN.out _ _ _ DE.out).mono ?_);rintro e w2 ⟨rfl,hb2⟩;have P2:=PU.out.below hb2 PU.out.lt;have p2:=bY P2;have UC:=p2.1;have p21:=p2.2.1;have p22:=p2.2.2.1;have p23:=p2.2.2.2.1;have p24:=p2.2.2.2.2.1;have p25:=p2.2.2.2.2.2.1;have p26:=p2.2.2.2.2.2.2;have M6:=P2.lt;have X2:=XE.out.below hb2 XE.out.lt;have x2:=bY X2;have x20:=x2.1;have x21:=x2.2.1;have x22:=x2.2.2.1;have x23:=x2.2.2.2.1;have x24:=x2.2.2.2.2.1;have x25:=x2.2.2.2.2.2.1;have x26:=x2.2.2.2.2.2.2;have xf2:=λj=>X2.frozen j;have zX2:=X2.lt;have HB2:=aa hb2;have J8:=aa X2;have TD:=aa P2;clear p2 x2)|(refine gH rfl (fq (t:=100) rfl rfl rfl (J8.out.alloc (.cells #[.int .u64 k0,.int .u64 k1,.int .u64 k2] 46)) (by rfl) (Tryz.sizeOf100 _) (by simp [Value.oneCell'])) ?_))
     refine aJ (λWf hWf=>?_);have hR:af Wf (B5+1) 100 #[.pointer (some ⟨a (8+3*yy),0,none⟩),.int .u64 key,.int .u64 (hh:Int),.pointer uap,.int .i64 uaz,.pointer fp,.int .i64 TM]:=by rw [hWf];exact (J8.out.alloc _).setRow _
     obtain ⟨r0,r1,r2,r3,r4,r5,r6⟩:=bY hR;obtain ⟨WE,JM,fI⟩:∃WE,Below w2.heap.size w2 WE/\ah (λb=>b=B5+1) WE Wf:=⟨_,(aM _ _).alloc (aL _) _,by rw [hWf];exact (ah.refl (λb=>b=B5+1) _).setRow (.inl rfl) _⟩
     have hDA:=(DE.out.later HB2.out).later JM;refine bodyPost_ret (v := .tuple #[.agg #[.pointer (some ⟨a (8+3*yy),0,none⟩),.int .u64 key,.int .u64 (hh:Int),.pointer uap,.int .i64 uaz,.pointer fp,.int .i64 TM],.bool false]) (by simp [results,Tryz.results91,go_sem,r0,r1,r2,r3,r4,r5,r6]) rfl ⟨_,rfl,Rh.out,hDA.aA fI (λb e=>by omega) (λx hx e=>by have:=sN.out x hx;omega),((LE.out.later HB2.out).later JM).aA fI (λb e e2=>ik b (by omega) e),?_⟩;exact (((ru.out.trans CE.out).au HB2.out).au JM).trans' fI (λb hb e=>by omega)
end
end Go.Proofs.YtolhmibejhldkaaGreatDoor
