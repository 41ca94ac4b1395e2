/- Texts joined: Less TabLeast TabLeastP. No condition but those that stand within. -/
import Derived.Test.YtcnkgiapidlbkaaGreatDoorPkSwar
import Derived.Test.YtcnkgiapidlbkaaGreatDoorPkMeter
import Derived.Test.YtcnkgiapidlbkaaGreatDoorPkErrs
import Derived.Test.YtcnkgiapidlbkaaGreatDoorPkGroup
import Derived.Test.YtcnkgiapidlbkaaGreatDoorPkTab
import Derived.Test.YtcnkgiapidlbkaaGreatDoorPkTab2
set_option linter.unusedVariables false
set_option linter.unusedSimpArgs false
set_option maxRecDepth 100000
set_option maxHeartbeats 8000000
namespace Go.Proofs.YtcnkgiapidlbkaaGreatDoor
open Go.RowKit Go.Proofs
def lessB (a b:EntS):Bool:=decide (a.hash<b.hash∨a.hash=b.hash∧a.key<b.key)
def cmpZ (a b:Int):Int:=if a<b then -1 else if b<a then 1 else 0
theorem isNaN_any (a:Int) (w:World):Calls Tryz.prog 145 #[.int .u64 a] w fun e w'=>e = .returned (.bool false)∧w=w':=by
 have e1:(a != a)=false:=by simp
 go_enter Tryz.func145,Tryz.ntmps145
 go_wp2
 go_ret
 exact ⟨rfl,rfl⟩
theorem compare_any (a b:Int) (w:World):Calls Tryz.prog 104 #[.int .u64 a,.int .u64 b] w fun e w'=>e = .returned (.int .i64 (cmpZ a b))∧w=w':=by
 unfold cmpZ
 rcases Int.lt_trichotomy a b with h|h|h
 · rw [if_pos h]
   have d1:decide (a<b)=true:=by simpa using h
   clear h
   go_enter Tryz.func104,Tryz.ntmps104
   go_wp2_with (go_at_call 145;refine (isNaN_any _ _).mono ?_;rintro e w' ⟨rfl,rfl⟩)
   go_ret
   exact ⟨rfl,rfl⟩
 · subst h
   rw [if_neg (by omega),if_neg (by omega)]
   have d1:decide (a<a)=false:=by simp
   have d2:decide (a > a)=false:=by simp
   go_enter Tryz.func104,Tryz.ntmps104
   go_wp2_with (go_at_call 145;refine (isNaN_any _ _).mono ?_;rintro e w' ⟨rfl,rfl⟩)
   go_ret
   exact ⟨rfl,rfl⟩
 · rw [if_neg (by omega),if_pos h]
   have d1:decide (a<b)=false:=by simp;omega
   have d2:decide (a > b)=true:=by simpa using h
   clear h
   go_enter Tryz.func104,Tryz.ntmps104
   go_wp2_with (go_at_call 145;refine (isNaN_any _ _).mono ?_;rintro e w' ⟨rfl,rfl⟩)
   go_ret
   exact ⟨rfl,rfl⟩
def orZ (p q:Int):Int:=if p=0 then q else p
theorem or2_any (p q:Int) (A:Nat) (w:World) (hA:Blk w A 3 #[.int .i64 p,.int .i64 q]) (cap:Nat) :
 Calls Tryz.prog 103 #[.slice (some ⟨A,0,none⟩) 2 cap] w fun e w'=>e = .returned (.int .i64 (orZ p q))∧w=w':=by
 have c0:=hA.cell 0
 have c1:=hA.cell 1
 have hl:=hA.lt
 unfold orZ
 clear hA
 by_cases hp:p=0
 · subst hp
   rw [if_pos rfl]
   have e0:((0:Int) != 0)=false:=by decide
   by_cases hq:q=0
   · subst hq
     go_enter Tryz.func103,Tryz.ntmps103
     go_wp2
     go_loop [8] (fun v8 => ∃k:Nat,k≤2∧v8 = .int .i64 (k:Int)) (fun v8=>2-(intOf v8).toNat)
     case atStart=>exact ⟨0,by omega,rfl⟩
     case round =>
      obtain ⟨k,hk,rfl⟩:=hrel
      obtain rfl|rfl|rfl:k=0∨k=1∨k=2:=by omega
      · go_wp2
        go_round
        case rel=>exact ⟨1,by omega,rfl⟩
        case measure=>simp [intOf]
      · go_wp2
        go_round
        case rel=>exact ⟨2,by omega,rfl⟩
        case measure=>simp [intOf]
      · go_wp2
        go_ret
        exact ⟨rfl,rfl⟩
   · have eq:(q != 0)=true:=by simpa using hq
     clear hq
     go_enter Tryz.func103,Tryz.ntmps103
     go_wp2
     go_loop [8] (fun v8 => ∃k:Nat,k≤1∧v8 = .int .i64 (k:Int)) (fun v8=>2-(intOf v8).toNat)
     case atStart=>exact ⟨0,by omega,rfl⟩
     case round =>
      obtain ⟨k,hk,rfl⟩:=hrel
      obtain rfl|rfl:k=0∨k=1:=by omega
      · go_wp2
        go_round
        case rel=>exact ⟨1,by omega,rfl⟩
        case measure=>simp [intOf]
      · go_wp2
        go_ret
        exact ⟨rfl,rfl⟩
 · rw [if_neg hp]
   have ep:(p != 0)=true:=by simpa using hp
   clear hp
   go_enter Tryz.func103,Tryz.ntmps103
   go_wp2
   go_loop [8] (fun v8=>v8 = .int .i64 0) (fun v8=>2-(intOf v8).toNat)
   case atStart=>exact rfl
   case round =>
    subst hrel
    go_wp2
    go_ret
    exact ⟨rfl,rfl⟩
theorem cmp_less (a b:EntS):(decide (orZ (cmpZ a.hash b.hash) (cmpZ a.key b.key)<0))=lessB a b:=by
 unfold lessB orZ cmpZ
 rw [Bool.eq_iff_iff,decide_eq_true_iff,decide_eq_true_iff]
 repeat' split
 all_goals omega
theorem less_any (a b:EntS) (w:World) :
 Calls Tryz.prog 62 #[.agg #[.int .u64 a.key,.int .u64 a.val,.int .u64 a.hash],.agg #[.int .u64 b.key,.int .u64 b.val,.int .u64 b.hash]] w fun e w'=>e = .returned (.bool (lessB a b))∧Below w.heap.size w w':=by
 rw [←cmp_less]
 have C1:=hiq (fun (x y:Int) (w':World)=>compare_any x y w')
 obtain ⟨p,hp⟩:=exq (cmpZ a.hash b.hash)
 obtain ⟨q,hq⟩:=exq (cmpZ a.key b.key)
 have CH:=hiq (fun (w':World)=>compare_any a.hash b.hash w')
 have CK:=hiq (fun (w':World)=>compare_any a.key b.key w')
 rw [←hp] at CH ⊢
 rw [←hq] at CK ⊢
 obtain ⟨r,hr⟩:=exq (orZ p q)
 have OR:=hiq (fun (A:Nat) (cap:Nat) (w':World) hA=>or2_any p q A w' hA cap)
 rw [←hr] at OR ⊢
 obtain ⟨a0,a1,a2⟩:=a
 obtain ⟨b0,b1,b2⟩:=b
 dsimp only at *
 clear hp hq hr C1
 go_enter Tryz.func62,Tryz.ntmps62
 go_wp2
 refine wp_region_seq (fun _=>False) #[⟨0,0,32,4,0⟩,⟨1,1,64,32,1⟩,⟨0,0,128,8,0⟩,⟨4,4,256,128,1⟩,⟨10,15,512,320,2⟩,⟨0,0,1024,4,0⟩,⟨32,32,2048,1024,1⟩,⟨0,0,4096,8,0⟩,⟨128,128,8192,4096,1⟩,⟨336,511,16384,10240,3⟩,⟨528,1023,32768,16896,3⟩,⟨1536,2047,65536,32768,3⟩,⟨2048,4095,131072,65536,0⟩,⟨8191,8191,16,131072,0⟩] 330 [(0,0),(1,1),(2,0),(3,1),(5,0),(6,1),(7,0),(8,1),(4,2),(9,3),(10,3),(11,3),(12,0),(13,0)] (by kernel_rfl) (by kernel_rfl) (by kernel_rfl) (by kernel_rfl) (by kernel_rfl) (by kernel_rfl) (fun c a d v w h=>by cases d <;> exact h) ?_
 refine zqC ?_
 refine zq1 Tryz.underlying39 ?_
 try refine zqP ?_;refine zqC ?_
 refine zq1 Tryz.underlying39 ?_
 try refine zqP ?_;refine zqC ?_
 refine zq1 Tryz.underlying39 ?_
 try refine zqP ?_;refine zqC ?_
 refine zq1 Tryz.underlying39 ?_
 try refine zqP ?_
 refine zqD fun K hK=>?_;go_wp2_with (first|(go_at_call 104;(with_reducible refine (CH.out _).mono ?_);rintro e w' ⟨rfl,rfl⟩)|(go_at_call 104;(with_reducible refine (CK.out _).mono ?_);rintro e w' ⟨rfl,rfl⟩));refine hkA hK (h:=?_);clear hK K
 try refine zqP ?_
 refine zqE fun K hK=>?_;go_wp2_with (first|(go_at_call 104;(with_reducible refine (CH.out _).mono ?_);rintro e w' ⟨rfl,rfl⟩)|(go_at_call 104;(with_reducible refine (CK.out _).mono ?_);rintro e w' ⟨rfl,rfl⟩));refine hK.out _ _ ?_;clear hK K
 try refine zqP ?_
 refine zqE fun K hK=>?_;go_wp2_with (fail);refine hK.out _ _ ?_;clear hK K
 try refine zqP ?_
 refine zqE fun K hK=>?_;go_wp2_with ((go_at_call 103;refine (OR.out _ _ _ (Blk.drew (Blk.new_at (by simp)))).mono ?_;rintro e w' ⟨rfl,rfl⟩));refine hK.out _ _ ?_;clear hK K
 try refine zqP ?_;refine zqC ?_;refine zqC ?_
 refine seq_nil ?_
 go_wp2
 go_ret
 exact ⟨rfl,by go_grown⟩
theorem before_any (a b:EntS) (w:World) :
 Calls Tryz.prog 64 #[.agg #[.int .u64 a.key,.int .u64 a.val,.int .u64 a.hash],.agg #[.int .u64 b.key,.int .u64 b.val,.int .u64 b.hash]] w fun e w'=>e = .returned (.bool (lessB a b))∧Below w.heap.size w w':=by
 unfold lessB
 obtain ⟨a0,a1,a2⟩:=a
 obtain ⟨b0,b1,b2⟩:=b
 dsimp only
 by_cases h:a2=b2
 · subst h
   have e1:(a2 != a2)=false:=by simp
   have e2:(decide (a2<a2∨a2=a2∧a0<b0))=decide (a0<b0):=by simp
   rw [e2]
   go_enter Tryz.func64,Tryz.ntmps64
   go_wp2
   go_ret
   exact ⟨rfl,by go_grown⟩
 · have e1:(a2 != b2)=true:=by simpa using h
   have e2:(decide (a2<b2∨a2=b2∧a0<b0))=decide (a2<b2):=by simp [h]
   rw [e2]
   clear h e2
   go_enter Tryz.func64,Tryz.ntmps64
   go_wp2
   go_ret
   exact ⟨rfl,by go_grown⟩
def leastStep (f:EntS) (acc:EntS×Bool) (e:EntS):EntS×Bool:=if (!lessB e f && (!acc.2 || lessB e acc.1))=true then (e,true) else acc
def entsTo' (T:TabS) (n:Nat):List EntS:=(List.range n).flatMap fun i=>entsL (T.M i) (T.S i)
def TabS.ents (T:TabS):List EntS:=entsTo' T T.n
def TabS.leastL (l:List EntS) (f:EntS):EntS×Bool:=l.foldl (leastStep f) (EntS.zero,false)
def TabS.least (T:TabS) (f:EntS):EntS×Bool:=TabS.leastL T.ents f
theorem entsTo_snoc (T:TabS) (n:Nat):entsTo' T (n+1)=entsTo' T n ++ entsL (T.M n) (T.S n):=by unfold entsTo';rw [List.range_succ,List.flatMap_append];simp
theorem leastL_append (l k:List EntS) (f:EntS):TabS.leastL (l ++ k) f=k.foldl (leastStep f) (TabS.leastL l f):=by unfold TabS.leastL;rw [List.foldl_append]
theorem entsL_len (m:Nat) (s:Nat→EntS):(entsL m s).length≤8:=by unfold entsL;rw [List.length_map];exact lanesL_len _
theorem ents_own {w:World} {base n:Nat} {e:TypeId} {v:Value} {l:List EntS} (h:w.ownsRow base e 3 v n (entV l)) :
 ∃a cap,v = .slice a n cap∧n=l.length∧(l≠ []→∃b,a=some ⟨b,0,none⟩∧base≤b∧b<w.heap.size∧∀i (h:i<l.length),w.cell? ⟨b,i*3,none⟩=some (.int .u64 l[i].key)∧w.cell? ⟨b,i*3+1,none⟩=some (.int .u64 l[i].val)∧w.cell? ⟨b,i*3+2,none⟩=some (.int .u64 l[i].hash)):=by
 have hl:l.length=n:=by have:=h.1;rw [entV_length] at this;omega
 rcases h.2 with ⟨rfl,h0⟩ | ⟨b,cap,cur,rfl,hb,hg,h1,h2,h3,h4⟩
 · exact ⟨none,0,by rw [h0],hl.symm,fun hk=>by rw [h0] at hl;exact absurd (List.length_eq_zero_iff.1 hl) hk⟩
 · refine ⟨_,cap,rfl,hl.symm,fun hk=>⟨b,rfl,hb,(Array.getElem?_eq_some_iff.1 hg).1,fun i hi=>?_⟩⟩
   have hc:∀j,j<3→w.cell? ⟨b,i*3+j,none⟩=(e3 l[i])[j]?:=by
    intro j hj
    have h5:=h.cells (g:=b) rfl (i*3+j)
    rw [entV_at _ i hi j hj] at h5
    have h6:(⟨b,0,none⟩:Addr).add (i*3+j)=⟨b,i*3+j,none⟩:=by
     simp only [Addr.add];split
     · rename_i e;rw [e]
     · simp
    rw [h6] at h5
    obtain ⟨u,hu⟩:∃u,(e3 l[i])[j]?=some u:=⟨_,List.getElem?_eq_getElem (show j<(e3 l[i]).length from hj)⟩
    rw [hu];exact h5 u hu
   exact ⟨hc 0 (by decide),hc 1 (by decide),hc 2 (by decide)⟩
theorem cells4 {w:World} {C:Nat} {T:TypeId} {a b c d:Value} (h:Blk w C T #[a,b,c,d]):w.cell? ⟨C,0,none⟩=some a∧w.cell? ⟨C,1,none⟩=some b∧w.cell? ⟨C,2,none⟩=some c∧w.cell? ⟨C,3,none⟩=some d:=⟨h.cell 0,h.cell 1,h.cell 2,h.cell 3⟩
structure LE (wr:World) (z:Nat) (q:Option Addr) (lp:Option Nat) (mt:MeterS) (x1 y1 z1:Int) (f acc:EntS) (w:World):Prop where
 l:Blk wr z 52 #[.pointer q,.int .i64 x1,.int .i64 y1,.int .i64 z1]
 r:Blk wr (z+1) 41 #[.int .u64 0,.int .u64 0,.int .u64 0]
 f:Blk wr (z+1+1) 41 #[.int .u64 f.key,.int .u64 f.val,.int .u64 f.hash]
 o:Blk wr (z+1+1+1) 41 #[.int .u64 acc.key,.int .u64 acc.val,.int .u64 acc.hash]
 m:LW wr lp mt
 c:Chg (fun b=>lp=some b) w wr
theorem LE.later {wr w' w:World} {z:Nat} {q:Option Addr} {lp:Option Nat} {mt:MeterS} {x1 y1 z1:Int} {f acc:EntS} (h:LE wr z q lp mt x1 y1 z1 f acc w) (hb:Below wr.heap.size wr w'):LE w' z q lp mt x1 y1 z1 f acc w :=
 ⟨h.l.below hb h.l.lt,h.r.below hb h.r.lt,h.f.below hb h.f.lt,h.o.below hb h.o.lt,h.m.later hb,h.c.thenBelow hb⟩
theorem LE.look {wr w' w:World} {z:Nat} {q:Option Addr} {lp:Option Nat} {mt mt':MeterS} {x1 y1 z1:Int} {f acc:EntS} (h:LE wr z q lp mt x1 y1 z1 f acc w) (hl:LW w' lp mt') (hc:Chg (fun b=>lp=some b) wr w') (hz:∀b,z≤b→¬lp=some b):LE w' z q lp mt' x1 y1 z1 f acc w :=
 ⟨h.l.chg hc (hz _ (by omega)),h.r.chg hc (hz _ (by omega)),h.f.chg hc (hz _ (by omega)),h.o.chg hc (hz _ (by omega)),hl,h.c.trans hc⟩
theorem LE.set {wr w:World} {z:Nat} {q:Option Addr} {lp:Option Nat} {mt:MeterS} {x1 y1 z1:Int} {f acc e:EntS} (h:LE wr z q lp mt x1 y1 z1 f acc w) (hw:w.heap.size≤z) (hz:∀b,z≤b→¬lp=some b) :
 LE (((wr.setCell ⟨z+1+1+1,0,none⟩ (.int .u64 e.key)).setCell ⟨z+1+1+1,1,none⟩ (.int .u64 e.val)).setCell ⟨z+1+1+1,2,none⟩ (.int .u64 e.hash)) z q lp mt x1 y1 z1 f e w:=by
 have hc:Chg (fun b=>b=z+1+1+1) wr (((wr.setCell ⟨z+1+1+1,0,none⟩ (.int .u64 e.key)).setCell ⟨z+1+1+1,1,none⟩ (.int .u64 e.val)).setCell ⟨z+1+1+1,2,none⟩ (.int .u64 e.hash)):=(((Chg.refl _ _).set1 _ _).set1 _ _).set1 _ _
 exact ⟨h.l.chg hc (by omega),h.r.chg hc (by omega),h.f.chg hc (by omega),((h.o.set 0 _).set 1 _).set 2 _,h.m.chg hc (fun b e1 e2=>hz b (by omega) e1),h.c.trans' hc (fun i hi e=>by omega)⟩
theorem tleast_any (B Q:Nat) (T:TabS) (hT:TGood T) (key:Int) (h:Int) (q:Option Addr) (lp:Option Nat) (hq:LensAt q lp) (mt:MeterS) (x1 y1 z1:Int) (w:World) (hW:TS w B Q T) (hL:LW w lp mt)
 (hlp:∀b,lp=some b→b≠B∧b≠Q∧b<w.heap.size∧b≠17) (hTab:Tab64 w) :
 Calls Tryz.prog 61 #[.pointer (some ⟨B,0,none⟩),.agg #[.pointer q,.int .i64 x1,.int .i64 y1,.int .i64 z1],.int .u64 h,.int .u64 key] w fun e w' =>
  e = .returned (.tuple #[.agg #[.int .u64 (T.least ⟨key,0,h⟩).1.key,.int .u64 (T.least ⟨key,0,h⟩).1.val,.int .u64 (T.least ⟨key,0,h⟩).1.hash],.bool (T.least ⟨key,0,h⟩).2])∧LW w' lp (addN mt x1 y1 z1 T.n)∧Chg (fun b=>lp=some b) w w':=by
 have hb:=hT.bounds
 have hM:=hT.m_lt
 have HW:=hiq hW
 have HL:=hiq hL
 have HTb:=hiq hTab
 have hlB:=hW.head.lt
 have hlQ:=hW.lt
 have NL:∀b,w.heap.size≤b→¬lp=some b:=fun b hb e=>by have:=(hlp b e).2.2.1;omega
 have nB:¬lp=some B:=fun e=>(hlp B e).1 rfl
 have nQ:¬lp=some Q:=fun e=>(hlp Q e).2.1 rfl
 have nT:¬lp=some 17:=fun e=>(hlp _ e).2.2.2 rfl
 obtain ⟨z,hz⟩:=exq w.heap.size
 have hwz:w.heap.size≤z:=by omega
 have NZ:∀b,z≤b→¬lp=some b:=fun b hb=>NL b (by omega)
 obtain ⟨f,hf⟩:∃f:EntS,f=⟨key,0,h⟩:=⟨_,rfl⟩
 rw [←hf]
 have HFk:key=f.key∧h=f.hash∧(0:Int)=f.val:=by rw [hf];exact ⟨rfl,rfl,rfl⟩
 obtain ⟨hfk,hfh,hfv⟩:=HFk
 have FV:=hiq hfv
 rw [hfk,hfh]
 have HZ:=hiq hz
 clear hz
 clear hW hL hTab hlp hT hf hfk hfh hfv
 go_enter Tryz.func61,Tryz.ntmps61
 have tc:∀ (w':World),Chg (fun b=>lp=some b) w w'→w'.cell? ⟨B,0,none⟩=some (.slice (some ⟨Q,0,none⟩) T.n T.n):=fun w' hc=>(HW.out.chg hc nB nQ).head.cell 0
 have TC:=hiq tc
 have c0:=tc w (Chg.refl _ _)
 clear tc
 have hl1:B<w.heap.size+1:=by omega
 have hl2:B<w.heap.size+1+1:=by omega
 have hl3:B<w.heap.size+1+1+1:=by omega
 go_wp2
 refine wp_at (fun wL hwL=>?_)
 have hLE:LE wL z q lp (addN mt x1 y1 z1 0) x1 y1 z1 f (TabS.leastL (entsTo' T 0) f).1 w:=by
  rw [hwL,HZ.out]
  refine ⟨?_,?_,?_,?_,?_,?_⟩
  · exact (((Blk.new w _ _).alloc _).alloc _).alloc _
  · exact ((Blk.new_at (by simp)).alloc _).alloc _
  · rw [←FV.out];exact (Blk.new_at (by simp)).alloc _
  · exact Blk.new_at (by simp)
  · exact HL.out.later (by go_grown)
  · exact Chg.of_below (by go_grown)
 have HLE:=hiq hLE
 have hf0:(TabS.leastL (entsTo' T 0) f).2=false:=rfl
 rw [←HZ.out]
 replace hwL:=hiq hwL
 clear hLE c0 hl1 hl2 hl3
 go_loopw [24,12] (fun v24 v12 wr => ∃i:Nat,i≤T.n∧v24 = .int .i64 (i:Int)∧v12 = .bool (TabS.leastL (entsTo' T i) f).2∧LE wr z q lp (addN mt x1 y1 z1 i) x1 y1 z1 f (TabS.leastL (entsTo' T i) f).1 w) (fun v24 _ _=>T.n-(intOf v24).toNat)
 case atStart=>exact ⟨0,Nat.zero_le _,rfl,rfl,HLE.out⟩
 case round =>
  clear HLE hf0
  obtain ⟨i,hi,rfl,rfl,hE⟩:=hrel
  have HS:=hiq (show TabS.leastL (entsTo' T (i+1)) f=(entsL (T.M i) (T.S i)).foldl (leastStep f) (TabS.leastL (entsTo' T i) f) by rw [entsTo_snoc,leastL_append])
  obtain ⟨acc,hacc⟩:=exq (TabS.leastL (entsTo' T i) f)
  rw [←hacc] at hE HS ⊢
  have HA:=hiq hacc
  have KE:=hiq hE
  have tc:=TC.out wr hE.c
  have hTw:=hiq (HW.out.chg hE.c nB nQ)
  have hzB:B<wr.heap.size:=(HW.out.chg hE.c nB nQ).head.lt
  obtain ⟨l0,l1,l2,l3⟩:=cells4 hE.l
  obtain ⟨fy0,fy1,fy2⟩:=cells3 hE.f
  obtain ⟨o0,o1,o2⟩:=cells3 hE.o
  have zl:=hE.l.lt
  have zf:=hE.f.lt
  have zo:=hE.o.lt
  clear hacc hE
  by_cases hlt:i<T.n
  · have hiI:(i:Int)<(T.n:Int):=by omega
    have LK:=hiq (fun (w':World) h'=>glook_any Q (i*25) q lp hq (addN mt x1 y1 z1 i) x1 y1 z1 w' h')
    have EN:=hiq (fun (w':World) hg' hT'=>gentries_any Q (i*25) (T.M i) (T.S i) (hM i hlt) w' hg' hT')
    obtain ⟨l,hl⟩:=exq (entsL (T.M i) (T.S i))
    have hl8:l.length≤8:=by rw [hl];exact entsL_len _ _
    rw [←hl] at EN HS
    have n5:¬lp=some z:=NZ _ (Nat.le_refl _)
    clear hl
    go_wp2
    refine wp_region_seq (fun b=>lp=some b) #[⟨0,0,134217728,1,0⟩,⟨1,1,268435456,134217728,0⟩,⟨2,3,536870912,268435456,0⟩,⟨4,7,1073741824,536870912,1⟩,⟨0,0,2147483648,8192,0⟩,⟨24,31,4294967296,3221225472,0⟩,⟨0,0,8589934592,32,1⟩,⟨96,127,17179869184,12884901888,3⟩,⟨128,255,34359738368,17179869184,3⟩,⟨256,511,68719476736,34359738368,0⟩,⟨0,0,137438953472,0,0⟩] 72 [(0,0),(1,0),(2,0),(3,1),(4,0),(5,0),(6,1),(10,0),(7,3),(8,3),(9,0)] (by kernel_rfl) (by kernel_rfl) (by kernel_rfl) (by kernel_rfl) (by kernel_rfl) (by kernel_rfl) (fun c a d v w h=>by cases d <;> exact h) ?_
    refine zqC ?_;refine zqC ?_;refine zqC ?_
    refine zq1 Tryz.underlying128 ?_
    try refine zqP ?_;refine zqC ?_;refine zqC ?_
    refine zqL [_,_,_,_] Tryz.underlying52 ?_
    try refine zqP ?_;refine zqC ?_
    refine zqE fun K hK=>?_;go_wp2_with ((go_at_call 66;refine (LK.out _ (KE.out.later (Below.refl _ _).drew).m).mono ?_;rintro e w1 ⟨rfl,hl1,hc1⟩;have E1:=hiq ((KE.out.later (Below.refl _ _).drew).look hl1 hc1 NZ);have W1:=hiq ((TW.drew hTw.out).chg hc1 nB nQ);have hcX:=hc1;clear hl1));refine hK.out _ _ ?_;clear hK K
    try refine zqP ?_
    refine zqE fun K hK=>?_;go_wp2_with ((go_at_call 102;refine (EN.out _ (W1.out.at' i hlt) (fun j hj=>(E1.out.c.cell (p:=⟨17,j,none⟩) (World.block_lt_of_cell? _ _ (HTb.out j hj)) nT).trans (HTb.out j hj))).mono ?_;rintro e w2 ⟨ve,rfl,hr2,hb2⟩;have E2:=hiq (E1.out.later hb2);have zw1:=E1.out.o.lt;obtain ⟨av,cv,rfl,-,hrd⟩:=ents_own hr2;have RD:=hiq hrd;clear hr2 hrd));refine hK.out _ _ ?_;clear hK K
    try refine zqP ?_;refine zqC ?_
    refine seq_nil ?_
    go_wp2
    refine wp_at (fun wI hwI=>?_)
    have E3:=hiq (show LE wI z q lp (addN mt x1 y1 z1 (i+1)) x1 y1 z1 f acc.1 w by rw [hwI];exact E2.out)
    have RI:=hiq (show l≠ []→∃b,av=some ⟨b,0,none⟩∧w1.heap.size≤b∧b<wI.heap.size∧∀i (h:i<l.length),wI.cell? ⟨b,i*3,none⟩=some (.int .u64 l[i].key)∧wI.cell? ⟨b,i*3+1,none⟩=some (.int .u64 l[i].val)∧wI.cell? ⟨b,i*3+2,none⟩=some (.int .u64 l[i].hash) by rw [hwI];exact RD.out)
    replace hwI:=hiq hwI
    have hlI:(l.length:Int)≤8:=by omega
    clear tc l0 l1 l2 l3 fy0 fy1 fy2 o0 o1 o2 zl zf zo hzB E2 RD E1 W1 LK EN KE hcX
    go_loopw [37,12] (fun v37 v12 wr => ∃k:Nat,k≤l.length∧v37 = .int .i64 (k:Int)∧v12 = .bool ((l.take k).foldl (leastStep f) acc).2∧LE wr z q lp (addN mt x1 y1 z1 (i+1)) x1 y1 z1 f ((l.take k).foldl (leastStep f) acc).1 w∧Chg (fun b=>b=z+1+1+1) wI wr) (fun v37 _ _=>l.length-(intOf v37).toNat)
    case atStart=>exact ⟨0,Nat.zero_le _,rfl,rfl,E3.out,Chg.refl _ _⟩
    case round =>
     clear E3
     obtain ⟨k,hk,rfl,rfl,hE,hC⟩:=hrel
     have KE:=hiq hE
     have KC:=hiq hC
     by_cases hkl:k<l.length
     · have hkI:(k:Int)<(l.length:Int):=by omega
       have hne:l≠ []:=fun e=>by rw [e] at hkl;simp at hkl
       obtain ⟨b,rfl,hb1,hb2,hcs⟩:=RI.out hne
       obtain ⟨p0,p1,p2⟩:=hcs k hkl
       replace p0:=(hC.cell (p:=⟨b,k*3,none⟩) hb2 (by show ¬b=_;omega)).trans p0
       replace p1:=(hC.cell (p:=⟨b,k*3+1,none⟩) hb2 (by show ¬b=_;omega)).trans p1
       replace p2:=(hC.cell (p:=⟨b,k*3+2,none⟩) hb2 (by show ¬b=_;omega)).trans p2
       have hbz:=Nat.lt_of_lt_of_le hb2 hC.size
       have HST:=hiq (show (l.take (k+1)).foldl (leastStep f) acc=leastStep f ((l.take k).foldl (leastStep f) acc) l[k] by rw [List.take_succ_eq_append_getElem hkl,List.foldl_append];rfl)
       obtain ⟨ac,hac⟩:=exq ((l.take k).foldl (leastStep f) acc)
       rw [←hac] at hE HST KE ⊢
       obtain ⟨e,he⟩:=exq (l[k])
       rw [←he] at p0 p1 p2 HST
       obtain ⟨fy0,fy1,fy2⟩:=cells3 hE.f
       obtain ⟨o0,o1,o2⟩:=cells3 hE.o
       have of':=fun j=>hE.o.frozen j
       have zf:=hE.f.lt
       have zo:=hE.o.lt
       clear hE hC hcs hac he
       obtain ⟨ao,fd⟩:=ac
       dsimp only at *
       have L1:=hiq (fun (w':World)=>less_any e f w')
       have L2:=hiq (fun (w':World)=>less_any e ao w')
       have HS2:Hid (leastStep f (ao,fd) e=if (!lessB e f && (!fd || lessB e ao))=true then (e,true) else (ao,fd)):=hiq rfl
       cases h1:lessB e f with
       | true =>
        rw [h1] at L1 HS2
        clear h1 L2
        go_wp2_with (go_at_call 62;(with_reducible refine (L1.out _).mono ?_);rintro e' w4 ⟨rfl,hb4⟩;have X4:=(Blk.new wr 41 #[.int .u64 e.key,.int .u64 e.val,.int .u64 e.hash]).below hb4 (by simp);obtain ⟨x0,x1',x2⟩:=cells3 X4;have zX4:=X4.lt;have hE4:=(KE.out.later ((Below.refl _ _).alloc (Nat.le_refl _) _)).later hb4;have E4:=hiq hE4;obtain ⟨q0,q1,q2⟩:=cells3 hE4.o;have qf:=fun j=>hE4.o.frozen j;have zo4:=hE4.o.lt;have C4:=hiq ((KC.out.alloc _).thenBelow hb4);clear hE4)
        go_roundw
        case rel=>exact ⟨k+1,by omega,by go_num,by rw [HST.out,HS2.out];rfl,by rw [HST.out,HS2.out];exact E4.out,C4.out⟩
        case measure=>simp [intOf];omega
       | false =>
        rw [h1] at L1 HS2
        clear h1
        cases fd with
        | false =>
         clear L2
         go_wp2_with (go_at_call 62;(with_reducible refine (L1.out _).mono ?_);rintro e' w4 ⟨rfl,hb4⟩;have X4:=(Blk.new wr 41 #[.int .u64 e.key,.int .u64 e.val,.int .u64 e.hash]).below hb4 (by simp);obtain ⟨x0,x1',x2⟩:=cells3 X4;have zX4:=X4.lt;have hE4:=(KE.out.later ((Below.refl _ _).alloc (Nat.le_refl _) _)).later hb4;have E4:=hiq hE4;obtain ⟨q0,q1,q2⟩:=cells3 hE4.o;have qf:=fun j=>hE4.o.frozen j;have zo4:=hE4.o.lt;have C4:=hiq ((KC.out.alloc _).thenBelow hb4);clear hE4)
         go_roundw
         case rel=>exact ⟨k+1,by omega,by go_num,by rw [HST.out,HS2.out];rfl,by rw [HST.out,HS2.out];exact E4.out.set hwz NZ,((C4.out.set1 _ _).set1 _ _).set1 _ _⟩
         case measure=>simp [intOf];omega
        | true =>
         cases h2:lessB e ao with
         | true =>
          rw [h2] at L2 HS2
          clear h2
          go_wp2_with (first|(go_at_call 62;(with_reducible refine (L1.out _).mono ?_);rintro e' w4 ⟨rfl,hb4⟩;have X4:=(Blk.new wr 41 #[.int .u64 e.key,.int .u64 e.val,.int .u64 e.hash]).below hb4 (by simp);obtain ⟨x0,x1',x2⟩:=cells3 X4;have zX4:=X4.lt;have hE4:=(KE.out.later ((Below.refl _ _).alloc (Nat.le_refl _) _)).later hb4;have E4:=hiq hE4;obtain ⟨q0,q1,q2⟩:=cells3 hE4.o;have qf:=fun j=>hE4.o.frozen j;have zo4:=hE4.o.lt;have C4:=hiq ((KC.out.alloc _).thenBelow hb4);clear hE4)|(go_at_call 62;(with_reducible refine (L2.out _).mono ?_);rintro e' w5 ⟨rfl,hb5⟩;have X5:=X4.below hb5 zX4;obtain ⟨u0,u1,u2⟩:=cells3 X5;have zX5:=X5.lt;have hE5:=E4.out.later hb5;have E5:=hiq hE5;obtain ⟨r0,r1,r2⟩:=cells3 hE5.o;have rf:=fun j=>hE5.o.frozen j;have zo5:=hE5.o.lt;have C5:=hiq (C4.out.thenBelow hb5);clear hE5))
          go_roundw
          case rel=>exact ⟨k+1,by omega,by go_num,by rw [HST.out,HS2.out];rfl,by rw [HST.out,HS2.out];exact E5.out.set hwz NZ,((C5.out.set1 _ _).set1 _ _).set1 _ _⟩
          case measure=>simp [intOf];omega
         | false =>
          rw [h2] at L2 HS2
          clear h2
          go_wp2_with (first|(go_at_call 62;(with_reducible refine (L1.out _).mono ?_);rintro e' w4 ⟨rfl,hb4⟩;have X4:=(Blk.new wr 41 #[.int .u64 e.key,.int .u64 e.val,.int .u64 e.hash]).below hb4 (by simp);obtain ⟨x0,x1',x2⟩:=cells3 X4;have zX4:=X4.lt;have hE4:=(KE.out.later ((Below.refl _ _).alloc (Nat.le_refl _) _)).later hb4;have E4:=hiq hE4;obtain ⟨q0,q1,q2⟩:=cells3 hE4.o;have qf:=fun j=>hE4.o.frozen j;have zo4:=hE4.o.lt;have C4:=hiq ((KC.out.alloc _).thenBelow hb4);clear hE4)|(go_at_call 62;(with_reducible refine (L2.out _).mono ?_);rintro e' w5 ⟨rfl,hb5⟩;have X5:=X4.below hb5 zX4;obtain ⟨u0,u1,u2⟩:=cells3 X5;have zX5:=X5.lt;have hE5:=E4.out.later hb5;have E5:=hiq hE5;obtain ⟨r0,r1,r2⟩:=cells3 hE5.o;have rf:=fun j=>hE5.o.frozen j;have zo5:=hE5.o.lt;have C5:=hiq (C4.out.thenBelow hb5);clear hE5))
          go_roundw
          case rel=>exact ⟨k+1,by omega,by go_num,by rw [HST.out,HS2.out];rfl,by rw [HST.out,HS2.out];exact E5.out,C5.out⟩
          case measure=>simp [intOf];omega
     · obtain rfl:k=l.length:=by omega
       rw [List.take_length,←HS.out]
       have HT':=hiq (show LE wr z q lp (addN mt x1 y1 z1 (i+1)) x1 y1 z1 f (TabS.leastL (entsTo' T (i+1)) f).1 w by rw [HS.out];have:=KE.out;rwa [List.take_length] at this)
       obtain ⟨ac,hac⟩:=exq (TabS.leastL (entsTo' T (i+1)) f)
       rw [←hac] at HT' ⊢
       have HAC:=hiq hac
       clear hac
       clear hE hC KE
       go_wp2
       go_roundw
       case rel=>exact ⟨i+1,by omega,by go_num,by rw [←HAC.out],by rw [←HAC.out];exact HT'.out⟩
       case measure=>simp [intOf];omega
  · obtain rfl:i=T.n:=by omega
    have HR:Hid (acc=T.least f):=hiq HA.out
    obtain ⟨ao,fd⟩:=acc
    dsimp only at o0 o1 o2
    have r0:=KE.out.r
    obtain ⟨r0c,r1c,r2c⟩:=cells3 KE.out.r
    have rfz:=fun j=>KE.out.r.frozen j
    have zr:=KE.out.r.lt
    clear r0
    go_wp2
    refine wp_end_at (fun Wf hWf=>?_)
    have hR:Blk Wf (z+1) 41 #[.int .u64 ao.key,.int .u64 ao.val,.int .u64 ao.hash]:=by rw [hWf];exact ((KE.out.r.set 0 _).set 1 _).set 2 _
    have hC:Chg (fun b=>b=z+1) wr Wf:=by rw [hWf];exact (((Chg.refl _ _).set1 _ _).set1 _ _).set1 _ _
    obtain ⟨g0,g1,g2⟩:=cells3 hR
    refine bodyPost_ret (v := .tuple #[.agg #[.int .u64 ao.key,.int .u64 ao.val,.int .u64 ao.hash],.bool fd]) (by simp [results,Tryz.results61,go_sem,g0,g1,g2]) rfl ⟨by rw [←HR.out],?_,?_⟩
    · exact KE.out.m.chg hC (fun b e e2=>NZ b (by omega) e)
    · exact KE.out.c.trans' hC (fun i hi e=>by omega)
theorem less_iff (a b:EntS):lessB a b=true↔a.hash<b.hash∨a.hash=b.hash∧a.key<b.key:=by unfold lessB;simp
theorem less_not (a b:EntS):lessB a b=false↔¬ (a.hash<b.hash∨a.hash=b.hash∧a.key<b.key):=by unfold lessB;simp
def LeastI (f:EntS) (l:List EntS) (acc:EntS×Bool):Prop :=
 (acc.2=false∧∀a∈l,lessB a f=true)∨(acc.2=true∧acc.1∈l∧lessB acc.1 f=false∧∀a∈l,lessB a f=false→lessB a acc.1=false)
theorem LeastI.step {f:EntS} {l:List EntS} {acc:EntS×Bool} (h:LeastI f l acc) (e:EntS):LeastI f (l ++ [e]) (leastStep f acc e):=by
 unfold leastStep
 cases h1:lessB e f with
 | true =>
  simp only [Bool.not_true,Bool.false_and,Bool.false_eq_true,if_false]
  rcases h with ⟨a1,a2⟩ | ⟨a1,a2,a3,a4⟩
  · refine .inl ⟨a1,fun a ha=>?_⟩
    rcases List.mem_append.1 ha with ha|ha
    · exact a2 a ha
    · rw [List.mem_singleton.1 ha];exact h1
  · refine .inr ⟨a1,List.mem_append_left _ a2,a3,fun a ha hf=>?_⟩
    rcases List.mem_append.1 ha with ha|ha
    · exact a4 a ha hf
    · rw [List.mem_singleton.1 ha,h1] at hf;cases hf
 | false =>
  simp only [Bool.not_false,Bool.true_and]
  rcases h with ⟨a1,a2⟩ | ⟨a1,a2,a3,a4⟩
  · rw [a1]
    simp only [Bool.not_false,Bool.true_or,if_true]
    refine .inr ⟨rfl,by simp,h1,fun a ha hf=>?_⟩
    rcases List.mem_append.1 ha with ha|ha
    · rw [a2 a ha] at hf;cases hf
    · rw [List.mem_singleton.1 ha,less_not];dsimp only;omega
  · rw [a1]
    simp only [Bool.not_true,Bool.false_or]
    cases h2:lessB e acc.1 with
    | true =>
     simp only [if_true]
     refine .inr ⟨rfl,by simp,h1,fun a ha hf=>?_⟩
     rcases List.mem_append.1 ha with ha|ha
     · have b:=a4 a ha hf
       rw [less_not] at b ⊢;rw [less_iff] at h2;dsimp only;omega
     · rw [List.mem_singleton.1 ha,less_not];dsimp only;omega
    | false =>
     simp only [Bool.false_eq_true,if_false]
     refine .inr ⟨a1,List.mem_append_left _ a2,a3,fun a ha hf=>?_⟩
     rcases List.mem_append.1 ha with ha|ha
     · exact a4 a ha hf
     · rw [List.mem_singleton.1 ha];exact h2
theorem LeastI.all {f:EntS}:∀ (k l:List EntS) (acc:EntS×Bool),LeastI f l acc→LeastI f (l ++ k) (k.foldl (leastStep f) acc)
 | [],l,acc,h=>by rw [List.append_nil];exact h
 | e :: k,l,acc,h=>by
  have:=LeastI.all k (l ++ [e]) (leastStep f acc e) (h.step e)
  rwa [List.append_assoc] at this
theorem least_spec (l:List EntS) (f:EntS):LeastI f l (TabS.leastL l f):=by
 have:=LeastI.all l [] (EntS.zero,false) (f:=f) (.inl ⟨rfl,fun a ha=>by cases ha⟩)
 rw [List.nil_append] at this
 exact this
theorem entsTo_length (T:TabS):∀n,(entsTo' T n).length=sumN (fun i=>countK (T.M i) 3) n
 | 0=>rfl
 | n+1=>by
  rw [entsTo_snoc,List.length_append,entsTo_length T n]
  unfold entsL
  rw [List.length_map,count_full];rfl
theorem ents_length {T:TabS} (hT:TGood T):(T.ents.length:Int)=T.lv:=by
 unfold TabS.ents;rw [entsTo_length,hT.lv];rfl
def TCnt (T:TabS) (H:Int→Nat) (n:Nat):Prop:=T.lv=((sumN (fun i=>if T.has (i:Int) (H i)=true then 1 else 0) n:Nat):Int)
theorem TCnt.put {T:TabS} {H:Int→Nat} {n x:Nat} (h:TCnt T H n) (hT:TFun T H) (hx:x<n) (v:Int) (hh:H x<18446744073709551616):TCnt (T.putT x v (H x)) H n:=by
 unfold TCnt at h ⊢
 have hs:=sumN_upd (f:=fun i:Nat=>if T.has (i:Int) (H i)=true then 1 else 0) (g:=fun i:Nat=>if (T.putT x v (H x)).has (i:Int) (H i)=true then 1 else 0) hx (fun j hj=>by
  rw [(hT.put_at x v hh j).1,if_neg (show ¬ (j:Int)=(x:Int) by omega)])
 have e:=(hT.put_at x v hh x).1
 rw [if_pos rfl] at e
 simp only [e] at hs
 rw [(hT.put_lv x v).1,hT.putB]
 unfold TabS.ok at hs
 cases c:T.has (x:Int) (H x) <;> cases d:decide (1≤T.left) <;> simp [c,d] at hs ⊢ <;> omega
end Go.Proofs.YtcnkgiapidlbkaaGreatDoor
