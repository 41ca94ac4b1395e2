/- Texts joined: EvacPair EvacP EvacJ Bits TrapAct Ref03 Ref03b EvacRef EvacG EvacH. No condition but those that stand within. -/
import Derived.Deep.DeepMakePanics
import Derived.LoopTactic
import Derived.IntWalk
import Derived.Deep.Cut
import Derived.Test.YtcnkgiapidlbkaaGreatDoorPkSwar
import Derived.Test.YtcnkgiapidlbkaaGreatDoorPkMeter
import Derived.Test.YtcnkgiapidlbkaaGreatDoorPkErrs
import Derived.Test.YtcnkgiapidlbkaaGreatDoorPkGroup
import Derived.Test.YtcnkgiapidlbkaaGreatDoorPkTab
import Derived.Test.YtcnkgiapidlbkaaGreatDoorPkTab2
import Derived.Test.YtcnkgiapidlbkaaGreatDoorPkTab3
import Derived.Test.YtcnkgiapidlbkaaGreatDoorPkTake
import Derived.Test.YtcnkgiapidlbkaaGreatDoorPkTabM
import Derived.Test.YtcnkgiapidlbkaaGreatDoorPkBuild
import Derived.Test.YtcnkgiapidlbkaaGreatDoorPkEvac
import Derived.Test.YtcnkgiapidlbkaaGreatDoorPkSound
import Derived.Test.YtcnkgiapidlbkaaGreatDoorPkRef09
set_option linter.unusedVariables false
set_option linter.unusedSimpArgs false
set_option maxRecDepth 100000
set_option maxHeartbeats 2000000
namespace Go.Proofs.YtcnkgiapidlbkaaGreatDoor
open Go.RowKit Go.Proofs
def DX (w:World) (lo hi D:Nat) (T:TabS) (L:Int):Prop := ∃P cap GB,DT w lo hi D P cap GB T L
section
variable {w w' w0:World} {lo hi D:Nat} {T:TabS} {L:Int}
theorem DX.later (h:DX w lo hi D T L) (hb:Below w.heap.size w w'):DX w' lo hi D T L:=by obtain ⟨P,cap,GB,h⟩:=h;exact ⟨P,cap,GB,h.later hb⟩
theorem DX.chg {X:Nat→Prop} (h:DX w lo hi D T L) (hc:Chg X w w') (hX:∀b,lo≤b→b<hi→¬X b):DX w' lo hi D T L:=by obtain ⟨P,cap,GB,h⟩:=h;exact ⟨P,cap,GB,h.chg hc hX⟩
theorem DX.id (h:DX w lo hi D T L):lo≤D∧D<hi:=by obtain ⟨P,cap,GB,h⟩:=h;exact h.id
theorem DX.lt (h:DX w lo hi D T L):D<w.heap.size:=by obtain ⟨P,cap,GB,h⟩:=h;exact h.head.lt
theorem DX.hz (h:DX w lo hi D T L):hi≤w.heap.size:=by obtain ⟨P,cap,GB,h⟩:=h;exact h.hz
theorem DX.cells (h:DX w lo hi D T L):w.cell? ⟨D,1,none⟩=some (.int .i64 L)∧(∀j,w.frozen? ⟨D,j,none⟩=false):=by obtain ⟨P,cap,GB,h⟩:=h;exact ⟨h.head.cell 1,fun j=>h.head.frozen j⟩
theorem DX.looks (h:DX w lo hi D T L) (L':Int):DX (w.setCell ⟨D,1,none⟩ (.int .i64 L')) lo hi D T L':=by obtain ⟨P,cap,GB,h⟩:=h;exact ⟨P,cap,GB,h.looks L'⟩
theorem DX.find (h:DX w lo hi D T L) (hL:0≤L∧L≤1000000000) (key:Int) (hs:Nat) (hh:hs<18446744073709551616) :
 Calls Tryz.prog 59 #[.pointer (some ⟨D,0,none⟩),.int .u64 key,.int .u64 (hs:Int)] w fun e w' =>
  e = .returned (.tuple #[.agg #[.int .u64 (T.ent key hs).key,.int .u64 (T.ent key hs).val,.int .u64 (T.ent key hs).hash],.bool (T.has key hs)])∧DX w' lo hi D T (L+T.looks key hs)∧Chg (fun b=>b=D) w w':=by
 obtain ⟨P,cap,GB,h⟩:=h
 refine (dtfind_any h hL key hs hh).mono ?_
 rintro e w' ⟨rfl,h1,h2⟩
 exact ⟨rfl,⟨P,cap,GB,h1⟩,h2⟩
theorem DX.put (h:DX w lo hi D T L) (hL:0≤L∧L≤1000000000) (key v:Int) (hs:Nat) (hh:hs<18446744073709551616) :
 Calls Tryz.prog 46 #[.pointer (some ⟨D,0,none⟩),.agg #[.int .u64 key,.int .u64 v,.int .u64 (hs:Int)]] w fun e w' =>
  e = .returned (.tuple #[.bool (T.putB key hs),.int .i64 ((T.putN key hs:Nat):Int)])∧DX w' lo hi D (T.putT key v hs) (L+T.looks key hs)∧Chg (fun b=>lo≤b∧b<hi) w w':=by
 obtain ⟨P,cap,GB,h⟩:=h
 refine (dtput_any h hL key v hs hh).mono ?_
 rintro e w' ⟨rfl,h1,h2⟩
 exact ⟨rfl,⟨P,cap,GB,h1⟩,h2⟩
end
structure PB where
 lo:Nat
 mid:Nat
 hi:Nat
 B:Nat
 Q:Nat
 D:Nat
structure PR (w:World) (p:PB) (T T2:TabS) (L:Int) (E:Nat→Addr) (w0:World):Prop where
 t:TN w p.B p.Q T E w0
 d:DX w p.mid p.hi p.D T2 L
 b:p.lo≤p.B∧p.B<p.mid∧p.lo≤p.Q∧p.Q<p.mid
 o:w0.heap.size≤p.lo∧p.mid≤p.hi
section
variable {w w' w0:World} {p:PB} {T T2:TabS} {L:Int} {E:Nat→Addr}
theorem PR.later (h:PR w p T T2 L E w0) (hb:Below w.heap.size w w'):PR w' p T T2 L E w0:=⟨h.t.later hb,h.d.later hb,h.b,h.o⟩
theorem PR.chg {X:Nat→Prop} (h:PR w p T T2 L E w0) (hc:Chg X w w') (hX:∀b,p.lo≤b→b<p.hi→¬X b) (hX0:∀b,X b→w0.heap.size≤b):PR w' p T T2 L E w0 :=
 have hb:=h.b
 have ho:=h.o
 ⟨TMW.chg h.t hc hX0 (hX _ hb.1 (by omega)) (hX _ hb.2.2.1 (by omega)) (fun b e=>by cases e),h.d.chg hc (fun b h1 h2=>hX b (by omega) h2),h.b,h.o⟩
theorem PR.put (h:PR w p T T2 L E w0) (key v:Int) (hs:Nat) (hh:hs<18446744073709551616) :
 Calls Tryz.prog 40 #[.pointer (some ⟨p.B,0,none⟩),.agg #[.pointer none,.int .i64 0,.int .i64 0,.int .i64 0],.agg #[.int .u64 key,.int .u64 v,.int .u64 (hs:Int)]] w fun e w' =>
  e = .returned (.tuple #[.bool (T.putB key hs),errN E (T.putN key hs)])∧PR w' p (T.putT key v hs) T2 L E w0∧Chg (fun b=>p.lo≤b∧b<p.hi) w w':=by
 have hb:=h.b
 have ho:=h.o
 refine (TN.put h.t key v hs hh).mono ?_
 rintro e w' ⟨rfl,h1,h2⟩
 exact ⟨rfl,⟨h1,h.d.chg h2 (fun b h3 h4=>by rintro (e|e) <;> omega),h.b,h.o⟩,h2.mono (fun b _ e=>by rcases e with e|e <;> subst e <;> omega)⟩
theorem PR.put2 (h:PR w p T T2 L E w0) (hL:0≤L∧L≤1000000000) (key v:Int) (hs:Nat) (hh:hs<18446744073709551616) :
 Calls Tryz.prog 46 #[.pointer (some ⟨p.D,0,none⟩),.agg #[.int .u64 key,.int .u64 v,.int .u64 (hs:Int)]] w fun e w' =>
  e = .returned (.tuple #[.bool (T2.putB key hs),.int .i64 ((T2.putN key hs:Nat):Int)])∧PR w' p T (T2.putT key v hs) (L+T2.looks key hs) E w0∧Chg (fun b=>p.lo≤b∧b<p.hi) w w':=by
 have hb:=h.b
 have ho:=h.o
 refine (h.d.put hL key v hs hh).mono ?_
 rintro e w' ⟨rfl,h1,h2⟩
 exact ⟨rfl,⟨TMW.chg h.t h2 (by rintro b ⟨h3,h4⟩;omega) (by omega) (by omega) (fun b e=>by cases e),h1,h.b,h.o⟩,h2.mono (fun b _ e=>by omega)⟩
theorem PR.looks (h:PR w p T T2 L E w0) (L':Int):PR (w.setCell ⟨p.D,1,none⟩ (.int .i64 L')) p T T2 L' E w0:=by
 have hb:=h.b
 have ho:=h.o
 have hd:=h.d.id
 have hC:Chg (fun b=>b=p.D) w (w.setCell ⟨p.D,1,none⟩ (.int .i64 L')):=(Chg.refl _ _).set1 _ _
 exact ⟨TMW.chg h.t hC (by rintro b rfl;omega) (by omega) (by omega) (fun b e=>by cases e),h.d.looks L',h.b,h.o⟩
end
structure MS (w:World) (p0:PB) (pt:Nat→PB) (k:Nat) (T T2:TabS) (U U2:Nat→TabS) (L0:Int) (Lc:Nat→Int) (E:Nat→Addr) (w0:World):Prop where
 o:PR w p0 T T2 L0 E w0
 t:∀i,i<k→PR w (pt i) (U i) (U2 i) (Lc i) E w0
 s0:∀i,i<k→p0.hi≤(pt i).lo
 s1:∀i j,i<j→j<k→(pt i).hi≤(pt j).lo
def MIn (p0:PB) (pt:Nat→PB) (k:Nat) (b:Nat):Prop:=(p0.lo≤b∧b<p0.hi)∨∃i,i<k∧(pt i).lo≤b∧b<(pt i).hi
section
variable {w w' w0:World} {p0:PB} {pt:Nat→PB} {k:Nat} {T T2:TabS} {U U2:Nat→TabS} {L0:Int} {Lc:Nat→Int} {E:Nat→Addr}
theorem MS.later (h:MS w p0 pt k T T2 U U2 L0 Lc E w0) (hb:Below w.heap.size w w'):MS w' p0 pt k T T2 U U2 L0 Lc E w0:=⟨h.o.later hb,fun i hi=>(h.t i hi).later hb,h.s0,h.s1⟩
theorem MS.chg {X:Nat→Prop} (h:MS w p0 pt k T T2 U U2 L0 Lc E w0) (hc:Chg X w w') (hX:∀b,MIn p0 pt k b→¬X b) (hX0:∀b,X b→w0.heap.size≤b):MS w' p0 pt k T T2 U U2 L0 Lc E w0 :=
 ⟨h.o.chg hc (fun b h1 h2=>hX b (.inl ⟨h1,h2⟩)) hX0,fun i hi=>(h.t i hi).chg hc (fun b h1 h2=>hX b (.inr ⟨i,hi,h1,h2⟩)) hX0,h.s0,h.s1⟩
end
theorem put_tb {T:TabS} (hT:TGood T) (ht:T.tb=0) (key v:Int) {h:Nat} (hh:h<18446744073709551616):(T.putT key v h).tb=0:=by
 have hg:=hT.putT (key:=key) v hh
 unfold TabS.putT
 split
 · exact ht
 · split
   · rename_i hr
     unfold TabS.room at hr
     simp only [Bool.and_eq_true,decide_eq_true_eq] at hr
     obtain ⟨k,hz,hk,hfg,hfl⟩:=hT.free' hr.2
     rw [hz,Int.toNat_natCast]
     show (if ln (T.M (T.freeG key h)) k=254 then T.tb-1 else T.tb)=0
     have h2:=(hT.ins hfg hk hfl key v hh).bounds.2.2.2.2.1
     have h3:(T.ins (T.freeG key h) k ⟨key,v,h⟩ h).tb=(if ln (T.M (T.freeG key h)) k=254 then T.tb-1 else T.tb):=rfl
     rw [h3] at h2
     split
     · rename_i e;rw [if_pos e] at h2;omega
     · exact ht
   · exact ht
def lvSum (U:Nat→TabS) (k:Nat):Int:=((List.range k).map fun i=>(U i).lv).sum
theorem lvSum_one (U:Nat→TabS):lvSum U 1=(U 0).lv:=by simp [lvSum]
theorem lvSum_two (U:Nat→TabS):lvSum U 2=(U 0).lv+(U 1).lv:=by simp [lvSum,List.range_succ]
theorem lvSum_upd {U:Nat→TabS} {k i:Nat} (hk:k=1∨k=2) (hi:i<k) (T':TabS):lvSum (upd U i T') k=lvSum U k-(U i).lv+T'.lv:=by
 rcases hk with rfl|rfl
 · obtain rfl:i=0:=by omega
   rw [lvSum_one,lvSum_one,upd_same];omega
 · rw [lvSum_two,lvSum_two]
   obtain rfl|rfl:i=0∨i=1:=by omega
   · rw [upd_same,upd_other _ _ (by decide:(1:Nat)≠0)];omega
   · rw [upd_same,upd_other _ _ (by decide:(0:Nat)≠1)];omega
theorem lvSum_le {U:Nat→TabS} {k i:Nat} (hk:k=1∨k=2) (hi:i<k) (h0:∀j,j<k→0≤(U j).lv):(U i).lv≤lvSum U k:=by
 rcases hk with rfl|rfl
 · obtain rfl:i=0:=by omega
   rw [lvSum_one];omega
 · rw [lvSum_two]
   have h1:=h0 0 (by decide);have h2:=h0 1 (by decide)
   have hi':i=0∨i=1:=by omega
   rcases hi' with rfl|rfl
   · omega
   · omega
structure UI (U:Nat→TabS) (k d:Nat) (H:Int→Nat) (gn:Nat):Prop where
 f:∀i,i<k→TFun (U i) H
 tb:∀i,i<k→(U i).tb=0
 n:∀i,i<k→(U i).n=gn
 side:∀i,i<k→∀q,(U i).has q (H q)=true→tIx k d (H q)=i
theorem UI.put {U:Nat→TabS} {k d gn:Nat} {H:Int→Nat} (h:UI U k d H gn) (hk:k=1∨(k=2∧d≤15)) (q v:Int) (hh:H q<18446744073709551616) (hno:(U (tIx k d (H q))).has q (H q)=false) (hroom:lvSum U k<7*(gn:Int)) :
 (U (tIx k d (H q))).putB q (H q)=true∧UI (upd U (tIx k d (H q)) ((U (tIx k d (H q))).putT q v (H q))) k d H gn∧lvSum (upd U (tIx k d (H q)) ((U (tIx k d (H q))).putT q v (H q))) k=lvSum U k+1∧
 ∀i,i<k→∀q',(upd U (tIx k d (H q)) ((U (tIx k d (H q))).putT q v (H q)) i).has q' (H q')=((U i).has q' (H q') || (decide (q'=q) && decide (tIx k d (H q)=i)))∧
  (upd U (tIx k d (H q)) ((U (tIx k d (H q))).putT q v (H q)) i).ent q' (H q')=if q'=q∧tIx k d (H q)=i then ⟨q,v,H q⟩ else (U i).ent q' (H q'):=by
 have hi:=tIx_lt (h:=H q) hk
 have hk':k=1∨k=2:=by omega
 generalize hix:tIx k d (H q)=x at *
 have hle:=lvSum_le hk' hi (fun j hj=>(h.f j hj).good.bounds.2.2.1)
 have hl1:1≤(U x).left:=by unfold TabS.left;rw [h.tb x hi,h.n x hi];omega
 have hok:(U x).ok q (H q)=true:=by unfold TabS.ok;simp [hl1]
 have hpB:(U x).putB q (H q)=true:=by rw [(h.f x hi).putB,hno];simpa using hl1
 have hat:∀i,i<k→∀q',(upd U x ((U x).putT q v (H q)) i).has q' (H q')=((U i).has q' (H q') || (decide (q'=q) && decide (x=i)))∧
  (upd U x ((U x).putT q v (H q)) i).ent q' (H q')=if q'=q∧x=i then ⟨q,v,H q⟩ else (U i).ent q' (H q'):=fun i hik q'=>by
  by_cases e:i=x
  · subst e
    rw [upd_same]
    have h1:=(h.f i hi).put_at q v hh q'
    rw [h1.1,h1.2,hok]
    by_cases e2:q'=q
    · subst e2;simp
    · simp [e2]
  · rw [upd_other _ _ e]
    have e3:¬x=i:=fun e'=>e e'.symm
    simp [e3]
 refine ⟨hpB,⟨fun i hik=>?_,fun i hik=>?_,fun i hik=>?_,fun i hik q' hq'=>?_⟩,?_,hat⟩
 · by_cases e:i=x
   · subst e;rw [upd_same];exact (h.f i hi).putT q v hh
   · rw [upd_other _ _ e];exact h.f i hik
 · by_cases e:i=x
   · subst e;rw [upd_same];exact put_tb (h.f i hi).good (h.tb i hi) q v hh
   · rw [upd_other _ _ e];exact h.tb i hik
 · by_cases e:i=x
   · subst e;rw [upd_same,putT_n];exact h.n i hi
   · rw [upd_other _ _ e];exact h.n i hik
 · rw [(hat i hik q').1] at hq'
   simp only [Bool.or_eq_true,Bool.and_eq_true,decide_eq_true_eq] at hq'
   rcases hq' with hq' | ⟨rfl,e⟩
   · exact h.side i hik q' hq'
   · rw [hix,e]
 · rw [lvSum_upd hk' hi,((h.f x hi).put_lv q v).1,hpB];simp;omega
theorem evF_inv {U:Nat→TabS} {k d gn:Nat} {H:Int→Nat} (h:UI U k d H gn) (hk:k=1∨(k=2∧d≤15)) (l:List EntS) (hH:∀e∈l,e.hash=(H e.key:Int)∧H e.key<18446744073709551616)
 (hnew:∀e∈l,(U (tIx k d (H e.key))).has e.key (H e.key)=false) (hdup:∀i j (hi:i<l.length) (hj:j<l.length),l[i].key=l[j].key→i=j) (hroom:lvSum U k+l.length≤7*(gn:Int)) :
 ∀j,j≤l.length→UI (evF k d (l.take j) (U,0)).1 k d H gn∧lvSum (evF k d (l.take j) (U,0)).1 k=lvSum U k+j∧
  (∀i,i<k→∀q,((evF k d (l.take j) (U,0)).1 i).has q (H q)=true↔(U i).has q (H q)=true∨∃p,∃hp:p<l.length,p<j∧l[p].key=q∧tIx k d (H q)=i)∧
  (∀i,i<k→∀q,(∀p (hp:p<l.length),p<j→l[p].key=q→tIx k d (H q)≠i)→((evF k d (l.take j) (U,0)).1 i).ent q (H q)=(U i).ent q (H q))∧
  (∀p (hp:p<l.length),p<j→((evF k d (l.take j) (U,0)).1 (tIx k d (H l[p].key))).ent l[p].key (H l[p].key)=l[p])∧
  (∀p (hp:p<l.length),p<j→((evF k d (l.take p) (U,0)).1 (tIx k d l[p].hash.toNat)).putB l[p].key l[p].hash.toNat=true)
 | 0,_=>⟨h,by rw [List.take_zero];simp [evF],fun i hi q=>⟨fun e => .inl e,fun e=>by rcases e with e | ⟨p,hp,h0,-⟩;exact e;omega⟩,fun i hi q _=>rfl,fun p hp h0=>by omega,fun p hp h0=>by omega⟩
 | j+1,hj=>by
  obtain ⟨h1,h2,h3,h4,h5,h6⟩:=evF_inv h hk l hH hnew hdup hroom j (by omega)
  have hjl:j<l.length:=by omega
  rw [evF_take hjl]
  generalize hs:evF k d (l.take j) (U,0)=s at *
  obtain ⟨hh1,hh2⟩:=hH l[j] (List.getElem_mem hjl)
  have hcv:l[j].hash.toNat=H l[j].key:=by rw [hh1];simp
  have hi:=tIx_lt (h:=H l[j].key) hk
  have hno:(s.1 (tIx k d (H l[j].key))).has l[j].key (H l[j].key)=false:=by
   rw [←Bool.not_eq_true,h3 _ hi]
   rintro (e | ⟨p,hp,hpj,hkey,-⟩)
   · rw [hnew _ (List.getElem_mem hjl)] at e;cases e
   · have:=hdup p j hp hjl hkey;omega
  obtain ⟨p1,p2,p3,p4⟩:=h1.put hk l[j].key l[j].val hh2 hno (by omega)
  unfold evS
  rw [hcv]
  refine ⟨p2,by rw [p3,h2];omega,fun i hi' q=>?_,fun i hi' q hq=>?_,fun p hp hpj=>?_,fun p hp hpj=>?_⟩
  · rw [(p4 i hi' q).1]
    simp only [Bool.or_eq_true,Bool.and_eq_true,decide_eq_true_eq]
    rw [h3 i hi' q]
    constructor
    · rintro ((e | ⟨p,hp,hpj,e1,e2⟩) | ⟨e1,e2⟩)
      · exact .inl e
      · exact .inr ⟨p,hp,by omega,e1,e2⟩
      · exact .inr ⟨j,hjl,by omega,e1.symm,by rw [e1];exact e2⟩
    · rintro (e | ⟨p,hp,hpj,e1,e2⟩)
      · exact .inl (.inl e)
      · by_cases e:p=j
        · subst e;exact .inr ⟨e1.symm,by rw [←e1] at e2;exact e2⟩
        · exact .inl (.inr ⟨p,hp,by omega,e1,e2⟩)
  · rw [(p4 i hi' q).2,if_neg (fun e=>hq j hjl (by omega) e.1.symm (by rw [e.1];exact e.2))]
    exact h4 i hi' q (fun p hp hpj=>hq p hp (by omega))
  · by_cases e:p=j
    · subst e
      rw [(p4 _ hi l[p].key).2,if_pos ⟨rfl,rfl⟩,←hh1]
    · have hi2:=tIx_lt (h:=H l[p].key) hk
      rw [(p4 _ hi2 l[p].key).2,if_neg (fun e'=>e (hdup p j hp hjl e'.1))]
      exact h5 p hp (by omega)
  · by_cases e:p=j
    · subst e;rw [hs,hcv];exact p1
    · exact h6 p hp (by omega)
theorem group_ents {T:TabS} {H:Int→Nat} (hT:TFun T H) (hHb:∀q,H q<18446744073709551616) {g:Nat} (hg:g<T.n) :
 (∀e∈entsL (T.M g) (T.S g),e.hash=(H e.key:Int)∧H e.key<18446744073709551616)∧
 (∀i j (hi:i<(entsL (T.M g) (T.S g)).length) (hj:j<(entsL (T.M g) (T.S g)).length),(entsL (T.M g) (T.S g))[i].key=(entsL (T.M g) (T.S g))[j].key→i=j)∧
 (∀q,(∃e∈entsL (T.M g) (T.S g),e.key=q)↔∃k,T.At q g k):=by
 have hat:∀k,k∈lanesL (fullB (T.M g))→T.At (T.S g k).key g k:=fun k hk=>by
  unfold lanesL at hk
  simp only [List.mem_filter,List.mem_range] at hk
  exact ⟨hg,hk.1,hk.2,rfl⟩
 refine ⟨fun e he=>?_,fun i j hi hj hij=>?_,fun q=>⟨?_,?_⟩⟩
 · unfold entsL at he
   obtain ⟨k,hk,rfl⟩:=List.mem_map.1 he
   exact ⟨hT.hash _ _ _ (hat k hk),hHb _⟩
 · have hnd:(lanesL (fullB (T.M g))).Nodup:=by unfold lanesL;exact List.nodup_range.filter _
   unfold entsL at hij hi hj
   simp only [List.getElem_map,List.length_map] at hij hi hj
   have h1:=hat _ (List.getElem_mem hi)
   have h2:=hat _ (List.getElem_mem hj)
   rw [hij] at h1
   have h3:=(hT.one _ _ _ _ _ h1 h2).2
   exact (List.getElem_inj hnd).1 h3
 · rintro ⟨e,he,rfl⟩
   unfold entsL at he
   obtain ⟨k,hk,rfl⟩:=List.mem_map.1 he
   exact ⟨k,hat k hk⟩
 · rintro ⟨k,ha⟩
   refine ⟨T.S g k,?_,ha.key⟩
   unfold entsL
   refine List.mem_map.2 ⟨k,?_,rfl⟩
   unfold lanesL
   simp only [List.mem_filter,List.mem_range]
   exact ⟨ha.hk,ha.full⟩
structure EI (T:TabS) (U:Nat→TabS) (k d:Nat) (H:Int→Nat) (g gn:Nat) (m:Int):Prop where
 t:TFun T H
 tn:T.n=g
 u:UI U k d H gn
 apart:∀q,T.has q (H q)=true→(U (tIx k d (H q))).has q (H q)=false
 cnt:T.lv+lvSum U k≤m
theorem EI.step {T:TabS} {U:Nat→TabS} {k d g gn:Nat} {H:Int→Nat} {m:Int} (h:EI T U k d H g gn m) (hk:k=1∨(k=2∧d≤15)) (hHb:∀q,H q<18446744073709551616) (hm:m≤7*(gn:Int)) {x:Nat} (hx:x<g) :
 EvOk k d (entsL (T.M x) (T.S x)) U∧EI (T.takeT x) (evF k d (entsL (T.M x) (T.S x)) (U,0)).1 k d H g gn m:=by
 have hx':x<T.n:=by rw [h.tn];exact hx
 obtain ⟨g1,g2,g3⟩:=group_ents h.t hHb hx'
 have hT':=h.t.takeT hx'
 have hlv:=takeT_lv T x
 have hlv0:=hT'.good.bounds.2.2.1
 have hcnt:=h.cnt
 obtain ⟨l,hl⟩:=exq (entsL (T.M x) (T.S x))
 rw [←hl] at g1 g2 g3 hlv ⊢
 have hnew:∀e∈l,(U (tIx k d (H e.key))).has e.key (H e.key)=false:=fun e he=>by
  obtain ⟨q,hq⟩:=(g3 e.key).1 ⟨e,he,rfl⟩
  exact h.apart _ (h.t.has_of hq)
 obtain ⟨i1,i2,i3,i4,i5,i6⟩:=evF_inv h.u hk l g1 hnew g2 (by omega) l.length (Nat.le_refl _)
 rw [List.take_length] at i1 i2 i3 i4 i5
 refine ⟨fun j hj=>i6 j hj hj,⟨hT',by rw [takeT_n];exact h.tn,i1,fun q hq=>?_,by rw [i2,hlv];omega⟩⟩
 obtain ⟨g',k',ha⟩:=hT'.has_iff.1 hq
 rw [at_takeT hx'] at ha
 rw [←Bool.not_eq_true,i3 _ (tIx_lt hk)]
 rintro (e | ⟨p,hp,-,hkey,-⟩)
 · rw [h.apart q (h.t.has_of ha.2)] at e;cases e
 · obtain ⟨k2,ha2⟩:=(g3 q).1 ⟨l[p],List.getElem_mem hp,hkey⟩
   exact ha.1 (h.t.one _ _ _ _ _ ha.2 ha2).1
theorem EI.putT {T:TabS} {U:Nat→TabS} {k d g gn:Nat} {H:Int→Nat} {m:Int} (h:EI T U k d H g gn m) (hk:k=1∨(k=2∧d≤15)) (hU:∀i,i<k→∀q,(U i).has q (H q)=false) (q v:Int) (hh:H q<18446744073709551616):EI (T.putT q v (H q)) U k d H g gn (m+1) :=
 ⟨h.t.putT q v hh,by rw [putT_n];exact h.tn,h.u,fun q' _=>hU _ (tIx_lt hk) q',by
  have h1:=h.cnt
  rw [(h.t.put_lv q v).1];split <;> omega⟩
theorem new_no {n:Nat} (hr:rightB (n:Int)=true) (H:Int→Nat) (q:Int):(TabS.new n).has q (H q)=false:=by
 cases e:(TabS.new n).has q (H q) with
 | false=>rfl
 | true =>
  obtain ⟨a,-⟩:=(TGood.new hr).at_of e
  have h1:=a.full
  rw [show (TabS.new n).M ((TabS.new n).lastG q (H q))=rep 128 from rfl,full_iff,ln_rep 128 _ (by decide) a.hk] at h1
  omega
def entK (H:Int→Nat) (q:Int):EntS:=⟨q,q+5,H q⟩
structure EK (T:TabS) (U:Nat→TabS) (k:Nat) (H:Int→Nat) (n:Nat):Prop where
 o:∀q,T.has q (H q)=true→(∃x:Nat,x<n∧q=x)∧T.ent q (H q)=entK H q
 u:∀i,i<k→∀q,(U i).has q (H q)=true→(∃x:Nat,x<n∧q=x)∧(U i).ent q (H q)=entK H q
 co:TCnt T H n
 cu:∀i,i<k→TCnt (U i) H n
theorem ek_put {T:TabS} {H:Int→Nat} {n x:Nat} (hT:TFun T H) (h:∀q,T.has q (H q)=true→(∃x:Nat,x<n∧q=x)∧T.ent q (H q)=entK H q) (hx:x<n) (hh:H x<18446744073709551616) :
 ∀q,(T.putT x ((x:Int)+5) (H x)).has q (H q)=true→(∃x:Nat,x<n∧q=x)∧(T.putT x ((x:Int)+5) (H x)).ent q (H q)=entK H q:=fun q hq=>by
 obtain ⟨h1,h2⟩:=hT.put_at x ((x:Int)+5) hh q
 rw [h1] at hq
 rw [h2]
 by_cases e:q=(x:Int)
 · subst e
   rw [if_pos rfl] at hq
   rw [if_pos rfl,if_pos hq]
   exact ⟨⟨x,hx,rfl⟩,rfl⟩
 · rw [if_neg e] at hq ⊢
   exact h q hq
theorem EK.putT {T:TabS} {U:Nat→TabS} {k n x:Nat} {H:Int→Nat} (h:EK T U k H n) (hT:TFun T H) (hx:x<n) (hh:H x<18446744073709551616):EK (T.putT x ((x:Int)+5) (H x)) U k H n :=
 ⟨ek_put hT h.o hx hh,h.u,h.co.put hT hx _ hh,h.cu⟩
structure EJ (T:TabS) (U:Nat→TabS) (k d:Nat) (H:Int→Nat) (g gn:Nat) (m:Int) (n:Nat):Prop where
 e:EI T U k d H g gn m
 k:EK T U k H n
section
variable {T:TabS} {U:Nat→TabS} {k d g gn n:Nat} {H:Int→Nat} {m m':Int}
theorem EJ.putT {x:Nat} (h:EJ T U k d H g gn m n) (hk:k=1∨(k=2∧d≤15)) (hU:∀i,i<k→∀q,(U i).has q (H q)=false) (hx:x<n) (hh:H x<18446744073709551616):EJ (T.putT x ((x:Int)+5) (H x)) U k d H g gn (m+1) n :=
 ⟨h.e.putT hk hU _ _ hh,h.k.putT h.e.t hx hh⟩
end
def presB (T:TabS) (U:Nat→TabS) (k d:Nat) (H:Int→Nat) (x:Nat):Bool:=T.has x (H x) || (U (tIx k d (H x))).has x (H x)
structure EL (T:TabS) (U:Nat→TabS) (k d:Nat) (H:Int→Nat) (g gn:Nat) (m:Int) (n nx c:Nat) (P:Nat→Bool):Prop where
 e:EI T U k d H g gn m
 o:∀q,T.has q (H q)=true→(∃x:Nat,x<n∧q=x)∧T.ent q (H q)=entK H q
 u:∀i,i<k→∀q,(U i).has q (H q)=true→(∃x:Nat,x<n∧q=x)∧(U i).ent q (H q)=entK H q
 c:T.lv+lvSum U k=(c:Int)
 p:∀x,x<n→presB T U k d H x=P x
 z:∀q g' k',T.At q g' k'→nx≤g'
section
variable {T:TabS} {U:Nat→TabS} {k d g gn n nx c:Nat} {H:Int→Nat} {m:Int} {P:Nat→Bool}
theorem EL.step (h:EL T U k d H g gn m n nx c P) (hk:k=1∨(k=2∧d≤15)) (hHb:∀q,H q<18446744073709551616) (hm:m≤7*(gn:Int)) (hx:nx<g) :
 EvOk k d (entsL (T.M nx) (T.S nx)) U∧EL (T.takeT nx) (evF k d (entsL (T.M nx) (T.S nx)) (U,0)).1 k d H g gn m n (nx+1) c P:=by
 obtain ⟨hok,he⟩:=h.e.step hk hHb hm hx
 refine ⟨hok,?_⟩
 have hx':nx<T.n:=by rw [h.e.tn];exact hx
 obtain ⟨g1,g2,g3⟩:=group_ents h.e.t hHb hx'
 have hT':=h.e.t.takeT hx'
 have hlv:=takeT_lv T nx
 have hlv0:=hT'.good.bounds.2.2.1
 have hcnt:=h.e.cnt
 have hent:∀e∈entsL (T.M nx) (T.S nx),T.has e.key (H e.key)=true∧e=entK H e.key:=fun e he=>by
  unfold entsL at he
  obtain ⟨k',hk',rfl⟩:=List.mem_map.1 he
  have ha:T.At (T.S nx k').key nx k':=by
   unfold lanesL at hk'
   simp only [List.mem_filter,List.mem_range] at hk'
   exact ⟨hx',hk'.1,hk'.2,rfl⟩
  have hh:=h.e.t.has_of ha
  exact ⟨hh,(h.e.t.ent_of ha).symm.trans (h.o _ hh).2⟩
 obtain ⟨l,hl⟩:=exq (entsL (T.M nx) (T.S nx))
 rw [←hl] at g1 g2 g3 hlv hent he ⊢
 have hnew:∀e∈l,(U (tIx k d (H e.key))).has e.key (H e.key)=false:=fun e he=>h.e.apart _ (hent e he).1
 obtain ⟨i1,i2,i3,i4,i5,i6⟩:=evF_inv h.e.u hk l g1 hnew g2 (by omega) l.length (Nat.le_refl _)
 rw [List.take_length] at i1 i2 i3 i4 i5
 have hold:∀q,(T.takeT nx).has q (H q)=true↔T.has q (H q)=true∧¬∃p,∃hp:p<l.length,l[p].key=q:=fun q=>by
  rw [hT'.has_iff,h.e.t.has_iff]
  constructor
  · rintro ⟨g',k',ha⟩
    rw [at_takeT hx'] at ha
    refine ⟨⟨g',k',ha.2⟩,?_⟩
    rintro ⟨p,hp,hq⟩
    obtain ⟨k2,ha2⟩:=(g3 q).1 ⟨l[p],List.getElem_mem hp,hq⟩
    exact ha.1 (h.e.t.one _ _ _ _ _ ha.2 ha2).1
  · rintro ⟨⟨g',k',ha⟩,hno⟩
    refine ⟨g',k',(at_takeT hx' q g' k').2 ⟨fun e=>?_,ha⟩⟩
    subst e
    obtain ⟨e,he,hq⟩:=(g3 q).2 ⟨k',ha⟩
    obtain ⟨p,hp,rfl⟩:=List.getElem_of_mem he
    exact hno ⟨p,hp,hq⟩
 refine ⟨he,fun q hq=>?_,fun i hi q hq=>?_,?_,fun x hxn=>?_,fun q g' k' ha=>?_⟩
 · obtain ⟨g',k',ha⟩:=hT'.has_iff.1 hq
   have hq0:=((hold q).1 hq).1
   have ha2:=(at_takeT hx' q g' k').1 ha
   refine ⟨(h.o q hq0).1,?_⟩
   rw [hT'.ent_of ha,(takeT_other T ha2.1).2,←h.e.t.ent_of ha2.2]
   exact (h.o q hq0).2
 · by_cases e:∃p,∃hp:p<l.length,l[p].key=q∧tIx k d (H q)=i
   · obtain ⟨p,hp,rfl,rfl⟩:=e
     have h5:=i5 p hp hp
     obtain ⟨e1,e2⟩:=hent _ (List.getElem_mem hp)
     exact ⟨(h.o _ e1).1,h5.trans e2⟩
   · rw [i3 i hi q] at hq
     rcases hq with hq | ⟨p,hp,-,h1,h2⟩
     · have h4:=i4 i hi q (fun p hp _ h1 h2=>e ⟨p,hp,h1,h2⟩)
       rw [h4]
       exact h.u i hi q hq
     · exact absurd ⟨p,hp,h1,h2⟩ e
 · rw [i2,hlv]
   have:=h.c
   omega
 · rw [←h.p x hxn,Bool.eq_iff_iff]
   unfold presB
   rw [Bool.or_eq_true,Bool.or_eq_true,hold,i3 _ (tIx_lt hk)]
   constructor
   · rintro (⟨e,-⟩|e | ⟨p,hp,-,hq,-⟩)
     · exact .inl e
     · exact .inr e
     · refine .inl ?_
       have:=(hent _ (List.getElem_mem hp)).1
       rw [hq] at this;exact this
   · rintro (e|e)
     · by_cases e2:∃p,∃hp:p<l.length,l[p].key=(x:Int)
       · obtain ⟨p,hp,hq⟩:=e2
         exact .inr (.inr ⟨p,hp,hp,hq,rfl⟩)
       · exact .inl ⟨e,e2⟩
     · exact .inr (.inl e)
 · obtain ⟨h1,h2⟩:=(at_takeT hx' q g' k').1 ha
   have:=h.z q g' k' h2
   omega
theorem EL.at (h:EL T U k d H g gn m n nx c P) {x:Nat} (hk:k=1∨(k=2∧d≤15)) (hx:x<n) (hp:P x=true) :
 (T.has x (H x)=true∧T.ent x (H x)=entK H x∧(U (tIx k d (H x))).has x (H x)=false)∨(T.has x (H x)=false∧(U (tIx k d (H x))).has x (H x)=true∧(U (tIx k d (H x))).ent x (H x)=entK H x):=by
 have hpx:=h.p x hx
 rw [hp] at hpx
 unfold presB at hpx
 cases c1:T.has (x:Int) (H x) with
 | true=>exact .inl ⟨rfl,(h.o _ c1).2,h.e.apart _ c1⟩
 | false =>
  rw [c1,Bool.false_or] at hpx
  exact .inr ⟨rfl,hpx,(h.u _ (tIx_lt hk) _ hpx).2⟩
end
def bitF (h i:Nat):Nat:=h / 2 ^ (63-i) % 2
theorem bitF_le (h i:Nat):bitF h i≤1:=by unfold bitF;omega
set_option maxRecDepth 100000
theorem need_no (E:Nat→Addr) (w:World) (h:w.cell? ⟨3,0,none⟩=some (errAt E 10)):Calls Tryz.prog 112 #[.bool false] w fun e w'=>e = .panicked [{ v:=raisedV (errAt E 10),recovered:=false}]∧w=w':=by
 go_enter Tryz.func112,Tryz.ntmps112
 go_wp2_with (go_at_call 149;refine (raise_err E 10 _).mono ?_;rintro e w' ⟨rfl,rfl⟩)
 exact ⟨rfl,rfl,rfl⟩
def ints64 (f:Nat→Nat):Array Value:=((List.range 64).map fun i=>Value.int .i64 (f i:Int)).toArray
theorem ints64_size (f:Nat→Nat):(ints64 f).size=64:=by simp [ints64]
theorem ints64_get (f:Nat→Nat) (j:Nat) (hj:j<64):(ints64 f)[j]?=some (.int .i64 (f j:Int)):=by simp [ints64,hj]
theorem ints64_set (f:Nat→Nat) (k b:Nat) (hk:k<64):(ints64 f).setIfInBounds k (.int .i64 (b:Int))=ints64 (fun j=>if j=k then b else f j):=by
 apply Array.ext_getElem?
 intro j
 by_cases hj:j<64
 · rw [ints64_get _ _ hj,Array.getElem?_setIfInBounds]
   by_cases e:k=j
   · subst e;simp [ints64_size,hj]
   · rw [if_neg e,ints64_get _ _ hj,if_neg (Ne.symm e)]
 · rw [Array.getElem?_eq_none (by rw [Array.size_setIfInBounds,ints64_size];omega),Array.getElem?_eq_none (by rw [ints64_size];omega)]
theorem ints64_one (f:Nat→Nat):∀v∈(ints64 f).toList,v.oneCell'=true:=by
 intro v hv
 simp only [ints64,List.mem_map] at hv
 obtain ⟨i,-,rfl⟩:=hv
 rfl
theorem ints64_congr {f g:Nat→Nat} (h:∀i,i<64→f i=g i):ints64 f=ints64 g:=by
 unfold ints64
 congr 1
 refine List.map_congr_left fun i hi=>?_
 rw [h i (List.mem_range.1 hi)]
def zeros64:Array Value:=Array.replicate 64 (Value.int .i64 0)
theorem zeros64_ints:zeros64=ints64 fun _=>0:=by
 apply Array.ext_getElem?
 intro j
 by_cases hj:j<64
 · rw [ints64_get _ _ hj];simp [zeros64,hj]
 · rw [Array.getElem?_eq_none (by simp [zeros64];omega),Array.getElem?_eq_none (by rw [ints64_size];omega)]
theorem zvI64 (w:World):(zeroValue 208).run Tryz.prog w = .ok (.agg zeros64) w:=by kernel_rfl
theorem bits_step (h n:Nat):(fun j=>if j=n then bitF h n else if n+1≤j then bitF h j else 0)=fun j=>if n≤j then bitF h j else 0:=by
 funext j
 by_cases e:j=n
 · subst e;simp
 · by_cases e2:n≤j
   · rw [if_neg e,if_pos e2,if_pos (by omega)]
   · rw [if_neg e,if_neg e2,if_neg (by omega)]
theorem bits_any (h:Nat) (hh:h<18446744073709551616) (w0:World) :
 Calls Tryz.prog 141 #[.int .u64 (h:Int)] w0 fun e w'=>e = .returned (.agg (ints64 (bitF h)))∧Below w0.heap.size w0 w':=by
 go_enter Tryz.func141,Tryz.ntmps141
 go_wp2_with (first
  | (refine wpList_value rfl (exec_zero (t:=208) rfl Tryz.underlying208 rfl zvI64 (fun w=>⟨_,Tryz.sizeOf3 w⟩)) ?_)
  | (refine wpList_value rfl (exec_alloc (t:=208) rfl zvI64) ?_)
  | (refine wpList_unit rfl (exec_storeAll (t:=208) rfl rfl rfl (Blk.new _ _ _) rfl (by rw [show (Value.agg zeros64).cells=zeros64 from rfl,show zeros64.size=64 from by simp [zeros64]];exact Tryz.sizeOf208 _) (by rw [zeros64_ints];exact ints64_one _)) ?_;rw [setRow_new rfl]))
 have q1:Blk ((w0.alloc (.cells zeros64 208)).alloc (.cells zeros64 208)) (w0.heap.size+1) 208 zeros64:=Blk.new_at (by simp)
 have q0:Blk ((w0.alloc (.cells zeros64 208)).alloc (.cells zeros64 208)) w0.heap.size 208 zeros64:=(Blk.new _ _ _).alloc _
 have hB1:Below w0.heap.size w0 ((w0.alloc (.cells zeros64 208)).alloc (.cells zeros64 208)):=by go_grown
 go_loopw [0,4] (fun v0 v4 wr => ∃k:Nat,k≤64∧v4 = .int .i64 ((k:Int)-1)∧v0 = .int .u64 ((h / 2 ^ (64-k):Nat):Int)∧Blk wr (w0.heap.size+1) 208 (ints64 (fun j=>if k≤j then bitF h j else 0))∧Blk wr w0.heap.size 208 zeros64∧Below w0.heap.size w0 wr) (fun _ v4 _=>(intOf v4+1).toNat)
 case atStart =>
  refine ⟨64,by omega,rfl,by simp,?_,q0,hB1⟩
  rw [←ints64_congr (f:=fun _=>0) (fun i hi=>by simp [show ¬64≤i by omega]),←zeros64_ints]
  exact q1
 case round =>
  obtain ⟨k,hk,rfl,rfl,h1,h2,h3⟩:=hrel
  by_cases hlt:1≤k
  · obtain ⟨n,rfl⟩:∃n,k=n+1:=⟨k-1,by omega⟩
    rw [show (((n+1:Nat):Int)-1)=(n:Int) by omega,show 64-(n+1)=63-n by omega]
    have c1:=h1.cell n
    rw [ints64_get _ n (by omega)] at c1
    have f1:=h1.frozen n
    have hv:h / 2 ^ (63-n) % 2=bitF h n:=rfl
    have hq0:h / 2 ^ (63-n) / 2=h / 2 ^ (64-n):=(by rw [Nat.div_div_eq_div_mul,←Nat.pow_succ,show (63-n).succ=64-n by omega])
    have hlow:h / 2 ^ (63-n)≤h:=Nat.div_le_self _ _
    generalize h / 2 ^ (63-n)=t at *
    have hq:=hiq hq0
    clear hq0
    have H1:=hiq h1
    have H2:=hiq h2
    clear h1 h2
    go_wp2
    go_roundw
    case rel =>
     refine ⟨n,by omega,by go_num,by rw [←hq.out];simp,?_,H2.out.other (by omega) _ _,h3.setCell (by simp) _⟩
     have:=H1.out.set n (.int .i64 (bitF h n:Int))
     rw [ints64_set _ _ _ (by omega)] at this
     rw [bits_step] at this
     rw [show (t:Int) % 2=((bitF h n:Nat):Int) by omega]
     exact this
    case measure=>simp only [intOf];omega
  · obtain rfl:k=0:=by omega
    rw [ints64_congr (g:=bitF h) (fun i hi=>by simp)] at h1
    have H1:=hiq h1
    have H2:=hiq h2
    clear h1 h2
    have HSZ:(ints64 (bitF h)).size=zeros64.size:=by rw [ints64_size];simp [zeros64]
    go_wp2_with (first|(refine wpList_value rfl (exec_loadAll (t:=208) rfl rfl Tryz.underlying208 rfl H1.out (by rw [ints64_size];exact Tryz.sizeOf208 _)) ?_)|(refine wpList_unit rfl (exec_storeAll (t:=208) rfl rfl rfl H2.out HSZ (by rw [ints64_size];exact Tryz.sizeOf208 _) (ints64_one _)) ?_))
    trace_state
    refine bodyPost_ret (v := .agg (ints64 (bitF h))) ?_ rfl ⟨rfl,Below.setRow h3 (Nat.le_refl _) _⟩
    exact results_blk rfl rfl Tryz.underlying208 rfl (H2.out.setRow _) (by rw [ints64_size];exact Tryz.sizeOf208 _)
theorem ix64 (f:Nat→Nat) (k:Nat) (hk:k<64) (w:World):(Instr.index 208 (.agg (ints64 f)) (.int .i64 (k:Int))).run Tryz.prog w = .ok (.int .i64 ((f k:Nat):Int)) w:=by
 have hag:(isAgg 3).run Tryz.prog w = .ok false w:=Tryz.isAgg3 w
 have hsz:=Tryz.sizeOf3 w
 have hg:=ints64_get f k hk
 have hp:(part 3 (ints64 f) ((k:Int).toNat*1)).run Tryz.prog w = .ok (.int .i64 ((f k:Nat):Int)) w:=by
  simp only [part,Sem.run_bind,hag,Result.andThen,Bool.false_eq_true,if_false,Int.toNat_natCast,Nat.mul_one,hg]
  rfl
 have h1:0≤(k:Int)∧(k:Int)<((64:Nat):Int):=by omega
 simp only [Instr.index,asIntOf,Sem.run_bind,Sem.run_pure,Result.andThen,run_underlying Tryz.underlying208,if_pos h1,hsz,hp]
structure VM (w:World) (X O G cap k:Nat) (TB:Nat→Nat) (d next:Nat):Prop where
 b:∃dI:Int,(k=2→dI=(d:Int))∧Blk w X 73 #[.pointer (some ⟨O,0,none⟩),.slice (some ⟨G,0,none⟩) k cap,.int .i64 dI,.int .i64 (next:Int)]
 l:∀i,i<k→w.cell? ⟨G,i,none⟩=some (.pointer (some ⟨TB i,0,none⟩))
 lt:G<w.heap.size
 hk:k=1∨(k=2∧d≤15)
theorem VM.blt {w:World} {V O G cap k:Nat} {TB:Nat→Nat} {d next:Nat} (h:VM w V O G cap k TB d next):V<w.heap.size:=by obtain ⟨_,-,h⟩:=h.b;exact h.lt
theorem VM.later {w w':World} {V O G cap k:Nat} {TB:Nat→Nat} {d next:Nat} (h:VM w V O G cap k TB d next) (hb:Below w.heap.size w w'):VM w' V O G cap k TB d next :=
 ⟨(by obtain ⟨q,e,b⟩:=h.b;exact ⟨q,e,b.below hb b.lt⟩),fun i hi=>(hb.cell (p:=⟨G,i,none⟩) h.lt).trans (h.l i hi),Nat.lt_of_lt_of_le h.lt hb.size,h.hk⟩
theorem VM.chg {X:Nat→Prop} {w w':World} {V O G cap k:Nat} {TB:Nat→Nat} {d next:Nat} (h:VM w V O G cap k TB d next) (hc:Chg X w w') (h1:¬X V) (h2:¬X G):VM w' V O G cap k TB d next :=
 ⟨(by obtain ⟨q,e,b⟩:=h.b;exact ⟨q,e,b.chg hc h1⟩),fun i hi=>(hc.cell (p:=⟨G,i,none⟩) h.lt h2).trans (h.l i hi),Nat.lt_of_lt_of_le h.lt hc.size,h.hk⟩
theorem vmcells {w:World} {V O G cap k:Nat} {TB:Nat→Nat} {d next:Nat} (h:VM w V O G cap k TB d next):w.cell? ⟨V,0,none⟩=some (.pointer (some ⟨O,0,none⟩))∧w.cell? ⟨V,1,none⟩=some (.slice (some ⟨G,0,none⟩) k cap)∧(∃dI:Int,(k=2→dI=(d:Int))∧w.cell? ⟨V,2,none⟩=some (.int .i64 dI))∧w.cell? ⟨V,3,none⟩=some (.int .i64 (next:Int))∧V<w.heap.size∧(∀j,w.frozen? ⟨V,j,none⟩=false) :=
 by obtain ⟨q,e,b⟩:=h.b;exact ⟨b.cell 0,b.cell 1,⟨q,e,b.cell 2⟩,b.cell 3,b.lt,fun j=>b.frozen j⟩
theorem rtarget_any (V O G cap k:Nat) (TB:Nat→Nat) (d next h:Nat) (hh:h<18446744073709551616) (w:World) (he:VM w V O G cap k TB d next) :
 Calls Tryz.prog 96 #[.pointer (some ⟨V,0,none⟩),.int .u64 (h:Int)] w fun e w'=>e = .returned (.pointer (some ⟨TB (tIx k d h),0,none⟩))∧Below w.heap.size w w':=by
 obtain ⟨c0,c1,c2,c3,hl,hf⟩:=vmcells he
 have hz:=he.lt
 have l0:=he.l 0 (by rcases he.hk with e|e <;> omega)
 rcases he.hk with rfl | ⟨rfl,hd⟩
 · have e1:tIx 1 d h=0:=rfl
   rw [e1]
   clear he c0 c2 c3 hf
   go_enter Tryz.func96,Tryz.ntmps96
   go_wp2
   refine wp_region_seq (fun _=>False) #[⟨0,0,32,1,0⟩,⟨1,1,64,32,0⟩,⟨2,3,128,64,0⟩,⟨4,7,256,128,1⟩,⟨8,15,512,256,0⟩,⟨16,31,1024,512,0⟩,⟨32,63,2048,1024,0⟩,⟨64,127,4096,2050,0⟩,⟨192,255,8192,6144,2⟩,⟨64,127,16384,2049,0⟩,⟨576,639,32768,18432,0⟩,⟨1088,1663,65536,34816,0⟩,⟨2112,3711,131072,67584,1⟩,⟨4416,8191,262144,141312,0⟩,⟨8256,16383,524288,264192,0⟩,⟨16448,32767,1048576,526336,0⟩] 4104 [(0,0),(1,0),(2,0),(3,1),(4,0),(5,0),(6,0),(7,0),(9,0),(10,0),(11,0),(12,1),(8,2),(13,0),(14,0),(15,0)] (by kernel_rfl) (by kernel_rfl) (by kernel_rfl) (by kernel_rfl) (by kernel_rfl) (by kernel_rfl) (fun c a d v w h=>by cases d <;> exact h) ?_
   refine zqC ?_;refine zqC ?_;refine zqC ?_
   refine zq1 Tryz.underlying71 ?_
   try refine zqP ?_;refine zqC ?_;refine zqC ?_;refine zqC ?_
   first
    | (refine zqK ?_)
    | (refine zqA ?_)
   try refine zqP ?_
   first
    | (refine zqK ?_)
    | (refine zqA ?_)
   try refine zqP ?_
   first
    | (refine zqK ?_)
    | (refine zqA ?_)
   try refine zqP ?_
   first
    | (refine zqK ?_)
    | (refine zqA ?_)
   try refine zqP ?_
   first
    | (refine zqK ?_)
    | (refine zq1 Tryz.underlying3 ?_)
   try refine zqP ?_
   first
    | (refine zqK ?_)
    | (refine zqD fun K hK=>?_;go_wp2_with (fail);refine hkA hK (h:=?_);clear hK K)
   try refine zqP ?_
   first
    | (refine zqK ?_)
    | (refine zqA ?_)
   try refine zqP ?_
   first
    | (refine zqK ?_)
    | (refine zqA ?_)
   try refine zqP ?_;refine zqC ?_
   refine seq_nil ?_
   go_wp2
   go_ret
   exact ⟨rfl,(Below.refl _ _).drew⟩
 · obtain ⟨dI,hdI,c2⟩:=c2
   obtain rfl:=hdI rfl
   clear hdI
   have l1:=he.l 1 (by decide)
   have BT:=hiq (fun w'=>bits_any h hh w')
   have IX:=fun w=>ix64 (bitF h) d (by omega) w
   have hb:=bitF_le h d
   have e1:tIx 2 d h=bitF h d:=rfl
   rw [e1]
   have HV:=hiq he
   generalize bitF h d=b at *
   generalize ints64 (bitF h)=bs at *
   clear he c0 c3 hf e1
   obtain rfl|rfl:b=0∨b=1:=by omega
   · go_enter Tryz.func96,Tryz.ntmps96
     go_wp2
     refine wp_region_seq (fun _=>False) #[⟨0,0,32,1,0⟩,⟨1,1,64,32,0⟩,⟨2,3,128,64,0⟩,⟨4,7,256,128,1⟩,⟨8,15,512,256,0⟩,⟨16,31,1024,512,0⟩,⟨32,63,2048,1024,0⟩,⟨64,127,4096,2050,0⟩,⟨192,255,8192,6144,2⟩,⟨64,127,16384,2049,0⟩,⟨576,639,32768,18432,0⟩,⟨1088,1663,65536,34816,0⟩,⟨2112,3711,131072,67584,1⟩,⟨4416,8191,262144,141312,0⟩,⟨8256,16383,524288,264192,0⟩,⟨16448,32767,1048576,526336,0⟩] 4104 [(0,0),(1,0),(2,0),(3,1),(4,0),(5,0),(6,0),(7,0),(9,0),(10,0),(11,0),(12,1),(8,2),(13,0),(14,0),(15,0)] (by kernel_rfl) (by kernel_rfl) (by kernel_rfl) (by kernel_rfl) (by kernel_rfl) (by kernel_rfl) (fun c a d v w h=>by cases d <;> exact h) ?_
     refine zqC ?_;refine zqC ?_;refine zqC ?_
     refine zq1 Tryz.underlying71 ?_
     try refine zqP ?_;refine zqC ?_;refine zqC ?_;refine zqC ?_
     first
      | (refine zqK ?_)
      | (refine zqA ?_)
     try refine zqP ?_
     first
      | (refine zqK ?_)
      | (refine zqA ?_)
     try refine zqP ?_
     first
      | (refine zqK ?_)
      | (refine zqA ?_)
     try refine zqP ?_
     first
      | (refine zqK ?_)
      | (refine zqA ?_)
     try refine zqP ?_
     first
      | (refine zqK ?_)
      | (refine zq1 Tryz.underlying3 ?_)
     try refine zqP ?_
     first
      | (refine zqK ?_)
      | (refine zqD fun K hK=>?_;go_wp2_with (go_at_call 141;refine (BT.out _).mono ?_;rintro e w1 ⟨rfl,hb1⟩;have V1:=hiq (HV.out.later (show Below w.heap.size w w1 from Below.undrew hb1));obtain ⟨d0,d1,⟨dI,hdI,d2⟩,d3,zl,-⟩:=vmcells V1.out;obtain rfl:=hdI rfl;clear hdI;have zg:=V1.out.lt;have t0:=V1.out.l 0 (by decide);have t1:=V1.out.l 1 (by decide));refine hkA hK (h:=?_);clear hK K)
     try refine zqP ?_
     first
      | (refine zqK ?_)
      | (refine zqA ?_)
     try refine zqP ?_
     first
      | (refine zqK ?_)
      | (refine zqA ?_)
     try refine zqP ?_;refine zqC ?_
     refine seq_nil ?_
     go_wp2
     go_ret
     exact ⟨rfl,Below.undrew hb1⟩
   · go_enter Tryz.func96,Tryz.ntmps96
     go_wp2
     refine wp_region_seq (fun _=>False) #[⟨0,0,32,1,0⟩,⟨1,1,64,32,0⟩,⟨2,3,128,64,0⟩,⟨4,7,256,128,1⟩,⟨8,15,512,256,0⟩,⟨16,31,1024,512,0⟩,⟨32,63,2048,1024,0⟩,⟨64,127,4096,2050,0⟩,⟨192,255,8192,6144,2⟩,⟨64,127,16384,2049,0⟩,⟨576,639,32768,18432,0⟩,⟨1088,1663,65536,34816,0⟩,⟨2112,3711,131072,67584,1⟩,⟨4416,8191,262144,141312,0⟩,⟨8256,16383,524288,264192,0⟩,⟨16448,32767,1048576,526336,0⟩] 4104 [(0,0),(1,0),(2,0),(3,1),(4,0),(5,0),(6,0),(7,0),(9,0),(10,0),(11,0),(12,1),(8,2),(13,0),(14,0),(15,0)] (by kernel_rfl) (by kernel_rfl) (by kernel_rfl) (by kernel_rfl) (by kernel_rfl) (by kernel_rfl) (fun c a d v w h=>by cases d <;> exact h) ?_
     refine zqC ?_;refine zqC ?_;refine zqC ?_
     refine zq1 Tryz.underlying71 ?_
     try refine zqP ?_;refine zqC ?_;refine zqC ?_;refine zqC ?_
     first
      | (refine zqK ?_)
      | (refine zqA ?_)
     try refine zqP ?_
     first
      | (refine zqK ?_)
      | (refine zqA ?_)
     try refine zqP ?_
     first
      | (refine zqK ?_)
      | (refine zqA ?_)
     try refine zqP ?_
     first
      | (refine zqK ?_)
      | (refine zqA ?_)
     try refine zqP ?_
     first
      | (refine zqK ?_)
      | (refine zq1 Tryz.underlying3 ?_)
     try refine zqP ?_
     first
      | (refine zqK ?_)
      | (refine zqD fun K hK=>?_;go_wp2_with (go_at_call 141;refine (BT.out _).mono ?_;rintro e w1 ⟨rfl,hb1⟩;have V1:=hiq (HV.out.later (show Below w.heap.size w w1 from Below.undrew hb1));obtain ⟨d0,d1,⟨dI,hdI,d2⟩,d3,zl,-⟩:=vmcells V1.out;obtain rfl:=hdI rfl;clear hdI;have zg:=V1.out.lt;have t0:=V1.out.l 0 (by decide);have t1:=V1.out.l 1 (by decide));refine hkA hK (h:=?_);clear hK K)
     try refine zqP ?_
     first
      | (refine zqK ?_)
      | (refine zqA ?_)
     try refine zqP ?_
     first
      | (refine zqK ?_)
      | (refine zqA ?_)
     try refine zqP ?_;refine zqC ?_
     refine seq_nil ?_
     go_wp2
     go_ret
     exact ⟨rfl,Below.undrew hb1⟩
attribute [local go_sem] neq_nilG eql_nilG
theorem row_ptrsG {w:World} {base k:Nat} {v:Value} {F:Nat→Nat} {e:TypeId} (h:w.ownsRow base e 1 v k ((List.range k).map (fun i=>Value.pointer (some ⟨F i,0,none⟩)))) (hk:1≤k) :
 ∃g cap cur,v = .slice (some ⟨g,0,none⟩) k cap∧base≤g∧Blk w g e cur∧∀i,i<k→w.cell? ⟨g,i,none⟩=some (.pointer (some ⟨F i,0,none⟩)):=by
 rcases h.2 with ⟨rfl,rfl⟩ | ⟨g,cap,cur,rfl,hb,hg,h1,h2,h3,h4⟩
 · omega
 · refine ⟨g,cap,cur,rfl,hb,hg,fun i hi=>?_⟩
   have h5:=h.cells (g:=g) rfl i
   have h6:(⟨g,0,none⟩:Addr).add i=⟨g,i,none⟩:=by
    simp only [Addr.add];split
    · rename_i e;rw [e]
    · simp
   rw [h6] at h5
   exact h5 _ (by simp [hi])
theorem wpList_append_own2' {P:Program} {w:World} {ops:Array Oper} {rest:List Oper} {o:Oper} {a:Act} {Q:Exit→Act→World→Prop} (hgd:o.guard=none) (s x:Operand) (t:TypeId)
 (ho:o.op = .call { callee := .builtin .append,args := #[s,x],argTypes := #[t,t]})
 (base:Nat) (e:TypeId) (i:TypeInfo) (z:Value) (size bytes:Nat) (ht:P.underlying t=some (.slice e)) (hi:P.info? e=some i) (hz:i.zero=some z)
 (hsize:i.size=size) (hby:i.bytes=bytes) (hzs:z.cells.size=size) (hsz:0<size)
 (v:Value) (n:Nat) (xs:List Value) (hs:a.eval s=v) (hown:w.ownsRow base e size v n xs)
 (ad:Addr) (m c:Nat) (news:List Value) (hx:a.eval x = .slice (some ad) m c) (hl:news.length=m*size) (hnews:∀j u,news[j]?=some u→w.cell? (ad.add j)=some u) (h1:∀u∈news,u.oneCell'=true)
 (h63:n+m≤maxLen) (hbytes:(n+m)*bytes≤140737488355328) (hbase:base≤w.heap.size) (hm:0<m)
 (h:∀v' w',w'.ownsRow base e size v' (n+m) (xs ++ news)→w.grownBy w' v.ownBlock→(v'.ownBlock=v.ownBlock∨v'.ownBlock=some w.heap.size)→wpList P ops Q rest (a.put o.dst v') w'):wpList P ops Q (o :: rest) a w :=
 wpList_plain hgd fun _ hK=>wp_append_own2 s x t ho base e i z size bytes ht hi hz hsize hby hzs hsz v n xs hs hown ad m c news hx hl hnews h1 h63 hbytes hbase hm fun v' w' h2 h3 h4=>hK _ _ (h v' w' h2 h3 h4)
theorem looks_le_n {T:TabS} (hT:TGood T) (key:Int) (h:Nat):T.looks key h≤T.n:=by
 have:=(lookN_spec (fun j=>T.stop key h (T.wk h j)) T.n 0).2.1
 unfold TabS.looks;omega
theorem Chg.of_grown {w w':World} {row:Option Nat} (hg:w.grownBy w' row):Chg (fun b=>row=some b) w w':=⟨hg.os,hg.tape,hg.output,hg.size,fun k hk hx=>hg.block k hk (fun e=>hx e.symm)⟩
theorem ownsRow_chgB {X:Nat→Prop} {w w':World} {base size n:Nat} {e:TypeId} {v:Value} {xs:List Value} (h:w.ownsRow base e size v n xs) (hc:Chg X w w') (hne:∀b,v.ownBlock=some b→¬X b):w'.ownsRow base e size v n xs:=by
 refine ⟨h.1,?_⟩
 rcases h.2 with h2 | ⟨g,cap,cur,rfl,hb,hh,hr⟩
 · exact .inl h2
 · exact .inr ⟨g,cap,cur,rfl,hb,(hc.block g (Array.getElem?_eq_some_iff.1 hh).1 (hne g rfl)).trans hh,hr⟩
end Go.Proofs.YtcnkgiapidlbkaaGreatDoor
namespace Go.Proofs.YtcnkgiapidlbkaaGreatDoor
open Go.RowKit Go.Proofs
attribute [local go_sem] neq_nilG eql_nilG
theorem infoPD:(Tryz.prog.info? 70).map (fun i=>(i.zero,i.size,i.bytes))=some (some (.pointer none),1,8):=by kernel_rfl
theorem PR.new {w w1 w2 w0:World} {n B Q D P cap:Nat} {GB:Nat→Nat} {E:Nat→Addr} (hr:rightB (n:Int)=true) (he:EC w0 E [1,2,4,5,14,16]) (hT:Tab64 w0) (hw:Below w0.heap.size w0 w) (ht:TW w1 B Q n (fun _=>rep 128) (fun _ _=>EntS.zero) 0 0) (hb1:Below w.heap.size w w1) (hB:w.heap.size≤B) (hQ:w.heap.size≤Q)
 (hd:DT w2 w1.heap.size w2.heap.size D P cap GB (TabS.new n) 0) (hb2:Below w1.heap.size w1 w2):PR w2 ⟨w.heap.size,w1.heap.size,w2.heap.size,B,Q,D⟩ (TabS.new n) (TabS.new n) 0 E w0:=by
 have h:=TMW.new (w0:=w0) hr he hT hw ht hb1 hB hQ
 exact ⟨h.later hb2,⟨P,cap,GB,hd⟩,⟨hB,h.ltB,hQ,h.ltQ⟩,⟨hw.size,hb2.size⟩⟩
end Go.Proofs.YtcnkgiapidlbkaaGreatDoor
