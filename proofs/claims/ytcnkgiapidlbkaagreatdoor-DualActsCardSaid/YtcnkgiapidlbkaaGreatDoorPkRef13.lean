/- Texts joined: Ref12b Ref13 Ref13b Ref13c Ref13d Ref13e Ref13f Ref10A Ref13g Ref13h DualMade DualActsP DualActsC Cut DualActsR. No condition but those that stand within. -/
import Derived.Deep.CutBlock
import Derived.Test.YtcnkgiapidlbkaaGreatDoorPkSwar
import Derived.Test.YtcnkgiapidlbkaaGreatDoorPkMeter
import Derived.Test.YtcnkgiapidlbkaaGreatDoorPkErrs
import Derived.Test.YtcnkgiapidlbkaaGreatDoorPkGroup
import Derived.Test.YtcnkgiapidlbkaaGreatDoorPkTab
import Derived.Test.YtcnkgiapidlbkaaGreatDoorPkTab2
import Derived.Test.YtcnkgiapidlbkaaGreatDoorPkTab3
import Derived.Test.YtcnkgiapidlbkaaGreatDoorPkTake
import Derived.Test.YtcnkgiapidlbkaaGreatDoorPkTabM
import Derived.Test.YtcnkgiapidlbkaaGreatDoorPkBuild
import Derived.Test.YtcnkgiapidlbkaaGreatDoorPkEvac
import Derived.Test.YtcnkgiapidlbkaaGreatDoorPkSound
import Derived.Test.YtcnkgiapidlbkaaGreatDoorPkRef09
import Derived.Test.YtcnkgiapidlbkaaGreatDoorPkEvac2
import Derived.Test.YtcnkgiapidlbkaaGreatDoorPkEvac3
import Derived.Test.YtcnkgiapidlbkaaGreatDoorPkSound2
import Derived.Test.YtcnkgiapidlbkaaGreatDoorPkActs
import Derived.Test.YtcnkgiapidlbkaaGreatDoorPkDual1
import Derived.Test.YtcnkgiapidlbkaaGreatDoorPkDual2
import Derived.Test.YtcnkgiapidlbkaaGreatDoorPkDual3
set_option linter.unusedVariables false
set_option linter.unusedSimpArgs false
set_option maxRecDepth 100000
set_option maxHeartbeats 16000000
namespace Go.Proofs.YtcnkgiapidlbkaaGreatDoor
open Go.RowKit Go.Proofs
section
variable {w w':World} {X gt tcap k:Nat} {p0:PB} {pt:Nat→PB} {d next:Nat} {T:TabS} {U:Nat→TabS} {L0:Int} {Lc:Nat→Int}
theorem RV.zlt (h:RV w X gt tcap k p0 pt d next T U L0 Lc):∀b,ZD p0 pt k b→b<w.heap.size:=fun b hb=>by
 rcases hb with hb | ⟨i,hi,hb⟩
 · have:=h.o.hz;omega
 · have:=(h.t i hi).hz;omega
theorem RV.inc (h:RV w X gt tcap k p0 pt d next T U L0 Lc):RV (w.setCell ⟨X,3,none⟩ (.int .i64 ((next+1:Nat):Int))) X gt tcap k p0 pt d (next+1) T U L0 Lc:=by
 have hC:Chg (fun b=>b=X) w (w.setCell ⟨X,3,none⟩ (.int .i64 ((next+1:Nat):Int))):=(Chg.refl _ _).set1 _ _
 have hgX:gt≠X:=fun e=>by
  have l0:=h.v.l 0 (by have:=h.v.hk;omega)
  obtain ⟨dI,-,hb9⟩:=h.v.b
  have c2:=hb9.cell 0
  have c3:=hb9.cell 2
  subst e
  rw [c2] at l0
  have q1:=h.s0 0 (by have:=h.v.hk;omega)
  have q2:=(h.t 0 (by have:=h.v.hk;omega)).id
  have q3:=h.o.id
  simp at l0
  all_goals omega
 refine ⟨⟨(by obtain ⟨q,e,b⟩:=h.v.b;exact ⟨q,e,b.set 3 _⟩),fun i hi=>(hC.cell (p:=⟨gt,i,none⟩) h.v.lt hgX).trans (h.v.l i hi),Nat.lt_of_lt_of_le h.v.lt hC.size,h.v.hk⟩,h.o.chg hC (fun b a c e=>(h.x b (.inl ⟨a,c⟩)).1 e),fun i hi=>(h.t i hi).chg hC (fun b a c e=>(h.x b (.inr ⟨i,hi,a,c⟩)).1 e),h.s0,h.s1,h.x⟩
structure RSt (wr:World) (X gt tcap k:Nat) (p0:PB) (pt:Nat→PB) (d next:Nat) (T':TabS) (l:List EntS) (s:(Nat→TabS)×Nat) (L0:Int) (Lc:Nat→Int) (m:Int) (base:Nat) (vl:Value) (w:World):Prop where
 e:∃Lc',RV wr X gt tcap k p0 pt d next T' s.1 L0 Lc'∧sumI Lc' k=sumI Lc k+s.2∧∀i,i<k→0≤Lc' i∧Lc' i≤m
 r:wr.ownsRow base 41 3 vl l.length (entV l)
 c:Chg (fun b=>ZD p0 pt k b∨b=X) w wr
theorem rstepG_any (h:RV w X gt tcap k p0 pt d next T U L0 Lc) (hL:0≤L0∧L0≤100000000) (mL:Int) (hmL:0≤mL∧mL≤100000000) (hn:next<T.n) (hLc:∀i,i<k→0≤Lc i∧Lc i≤mL) :
 Calls Tryz.prog 74 #[.pointer (some ⟨X,0,none⟩)] w fun e w' => ∃b,e = .returned (.tuple #[.bool true,.bool b])∧(b=false→EvOk k d (entsL (T.M next) (T.S next)) U)∧(b=true→¬EvOk k d (entsL (T.M next) (T.S next)) U)∧
  (b=false→∃Lc',RV w' X gt tcap k p0 pt d (next+1) (T.takeT next) (evF k d (entsL (T.M next) (T.S next)) (U,0)).1 (L0+1) Lc'∧sumI Lc' k=sumI Lc k+((evF k d (entsL (T.M next) (T.S next)) (U,0)).2:Nat)∧∀i,i<k→0≤Lc' i∧Lc' i≤mL+512)∧
  Chg (fun b=>ZD p0 pt k b∨b=X) w w':=by
 obtain ⟨c0,c1,c2,c3,zX,fX⟩:=vmcells h.v
 obtain ⟨P,cap,d0⟩:=h.o.head
 have zD:=h.o.lt
 have hb:=h.o.good.bounds
 have hn64:next<64:=by omega
 have e0:((next:Int) == (T.n:Int))=false:=by simp;omega
 have HH:=hiq (fun e=>ents_hash (e:=e) (h.o.good.good next hn))
 have hl8:=entsL_len (T.M next) (T.S next)
 have hki:=h.v.hk
 have TK:=hiq (fun (w':World) (h:RV w' X gt tcap k p0 pt d next T U L0 Lc)=>h.take (by omega) hn)
 have HV:=hiq h
 have hXX:¬ZD p0 pt k X:=fun e=>(h.x X e).1 rfl
 have HLC:=hiq hLc
 have HZL:=hiq h.zlt
 obtain ⟨l,hll⟩:=exq (entsL (T.M next) (T.S next))
 rw [←hll] at TK hl8 HH ⊢
 clear h hLc hll
 go_enter Tryz.func74,Tryz.ntmps74
 go_wp2
 refine wp_region_seq (fun _=>False) #[⟨0,0,1024,1,0⟩,⟨1,1,2048,1024,0⟩,⟨2,3,4096,2048,0⟩,⟨4,7,8192,4096,1⟩,⟨0,0,16384,1,0⟩,⟨16,16,32768,16384,0⟩,⟨32,48,65536,32768,0⟩,⟨64,112,131072,65536,1⟩,⟨128,240,262144,131072,0⟩,⟨256,496,524288,262144,0⟩,⟨512,1008,1048576,524288,1⟩,⟨1024,2032,2097152,1048576,0⟩,⟨2056,4095,4194304,2105344,0⟩] 1160 [(0,0),(1,0),(2,0),(3,1),(4,0),(5,0),(6,0),(7,1),(8,0),(9,0),(10,1),(11,0),(12,0)] (by kernel_rfl) (by kernel_rfl) (by kernel_rfl) (by kernel_rfl) (by kernel_rfl) (by kernel_rfl) (fun c a d v w h=>by cases d <;> exact h) ?_
 refine zqC ?_;refine zqC ?_;refine zqC ?_
 refine zq1 Tryz.underlying3 ?_
 try refine zqP ?_;refine zqC ?_;refine zqC ?_;refine zqC ?_
 refine zq1 Tryz.underlying70 ?_
 try refine zqP ?_;refine zqC ?_;refine zqC ?_
 refine zq1 Tryz.underlying96 ?_
 try refine zqP ?_;refine zqC ?_;refine zqC ?_
 refine seq_nil ?_
 go_wp2
 refine wp_region_seq (ZD p0 pt k) #[⟨0,0,16777216,1,0⟩,⟨1,1,33554432,16777216,0⟩,⟨2,3,67108864,33554432,0⟩,⟨4,7,134217728,67108864,1⟩,⟨0,0,268435456,1,0⟩,⟨16,16,536870912,268435456,0⟩,⟨32,48,1073741824,536870912,0⟩,⟨64,112,2147483648,1073741824,1⟩,⟨136,255,4294967296,2281701376,3⟩,⟨256,511,8388608,4294967296,0⟩,⟨512,1023,8589934592,8388608,0⟩,⟨512,1023,17179869184,8388608,0⟩,⟨2047,2047,16,8589934592,0⟩,⟨8191,8191,32,17179869184,0⟩] 136 [(0,0),(1,0),(2,0),(3,1),(4,0),(5,0),(6,0),(7,1),(8,3),(9,0),(10,0),(11,0),(12,0),(13,0)] (by kernel_rfl) (by kernel_rfl) (by kernel_rfl) (by kernel_rfl) (by kernel_rfl) (by kernel_rfl) (fun c a d v w h=>by cases d <;> exact h) ?_
 refine zqC ?_;refine zqC ?_;refine zqC ?_
 refine zq1 Tryz.underlying70 ?_
 try refine zqP ?_;refine zqC ?_;refine zqC ?_;refine zqC ?_
 refine zq1 Tryz.underlying3 ?_
 try refine zqP ?_
 refine zqE fun K hK=>?_;go_wp2_with (go_at_call 118;(with_reducible refine (TK.out _ HV.out.drew.drew).mono ?_);rintro e w1 ⟨vl,rfl,hr1,hv1,hc1⟩;obtain ⟨av,capv,rfl⟩:=ownsRow_slice hr1;have V1:=hiq hv1;have R1:=hiq hr1;have C1:=hiq (show Chg (fun b=>ZD p0 pt k b∨b=X) w w1 from ((Chg.refl _ w).drew.drew).trans (hc1.mono (fun _ _ e => .inl e)));obtain ⟨d0,d1,d2,d3,zX1,df⟩:=vmcells V1.out.v;clear hv1 hr1 hc1);refine hK.out _ _ ?_;clear hK K
 try refine zqP ?_;refine zqC ?_;refine zqC ?_;refine zqC ?_;refine zqC ?_;refine zqC ?_
 refine seq_nil ?_
 have e1:IntKind.i64.wrap ((next:Int)+1)=((next+1:Nat):Int):=by rw [IntKind.wrap_i64];omega
 go_wp2
 refine wp_at (fun wL hwL=>?_)
 have D0:=hiq (show RSt wL X gt tcap k p0 pt d (next+1) (T.takeT next) l (evF k d (l.take 0) (U,0)) (L0+1) Lc (mL+64*((0:Nat):Int)) w.heap.size (.slice av l.length capv) w by
  rw [hwL]
  refine ⟨⟨Lc,V1.out.inc,by simp [evF],fun i hi=>by have:=HLC.out i hi;omega⟩,?_,C1.out.trans (((Chg.refl (fun b=>b=X) _).set1 _ _).mono (fun _ _ e => .inr e))⟩
  exact ownsRow_chg (X:=fun b=>b=X) R1.out ((Chg.refl _ _).set1 _ _) (fun b hb e=>by subst e;exact absurd (show w.heap.size≤b from hb) (by omega)))
 have C0:=hiq (show Chg (fun b=>ZD p0 pt k b∨b=X) w wL from D0.out.c)
 replace hwL:=hiq hwL
 clear C0 V1 R1 C1 d0 d1 d2 d3 zX1 df c0 c1 c2 c3 fX TK HV
 go_loopw [44] (fun v44 wr => ∃j:Nat,j≤l.length∧v44 = .int .i64 (j:Int)∧RSt wr X gt tcap k p0 pt d (next+1) (T.takeT next) l (evF k d (l.take j) (U,0)) (L0+1) Lc (mL+64*(j:Int)) w.heap.size (.slice av l.length capv) w∧
  (∀i (hi:i<l.length),i<j→((evF k d (l.take i) (U,0)).1 (tIx k d l[i].hash.toNat)).putB l[i].key l[i].hash.toNat=true)) (fun v44 _=>l.length-(intOf v44).toNat)
 case atStart=>exact ⟨0,Nat.zero_le _,rfl,D0.out,fun i _ hi=>by omega⟩
 case round =>
  clear D0
  obtain ⟨j,hj,rfl,hS,hA⟩:=hrel
  have KS:=hiq hS
  have HOK:=hiq hA
  clear hS hA
  by_cases hlt:j<l.length
  · have hltI:(j:Int)<(l.length:Int):=by omega
    have HT:=hiq (evF_take (k:=k) (d:=d) hlt (U,0))
    obtain ⟨av',capv',e,-,hrow⟩:=ents_own KS.out.r
    cases e
    obtain ⟨b,rfl,hbb,hbz,hcl⟩:=hrow (fun e=>by rw [e] at hlt;exact absurd hlt (by simp))
    obtain ⟨g0,g1,g2⟩:=hcl j hlt
    obtain ⟨hh1,hh2⟩:=HH.out l[j] (List.getElem_mem hlt)
    unfold evS at HT
    obtain ⟨s,hs⟩:=exq (evF k d (l.take j) (U,0))
    have HSE:=hiq hs
    rw [←hs] at HT KS
    rw [hh1] at g2
    generalize hq1:l[j].hash.toNat=hs' at HT g2 hh2
    generalize hq2:l[j].key=ky at HT g0
    replace hq1:=hiq hq1
    replace hq2:=hiq hq2
    generalize l[j].val=vv at *
    have hi:=tIx_lt (h:=hs') hki
    obtain ⟨Lc',hv,hsum,hbd⟩:=KS.out.e
    have HVr:=hiq hv
    have TG:=hiq (fun (w':World) (h:VM w' X p0.D gt tcap k (fun i=>(pt i).D) d (next+1))=>rtarget_any X p0.D gt tcap k (fun i=>(pt i).D) d (next+1) hs' hh2 w' h)
    generalize hq3:tIx k d hs'=i at *
    replace hq3:=hiq hq3
    have hbi:=hbd i hi
    have hlk:=looks_le_n (hv.t i hi).good ky hs'
    have hnb:=(hv.t i hi).good.bounds
    have PU:=hiq (fun (w':World) (h:RV w' X gt tcap k p0 pt d (next+1) (T.takeT next) s.1 (L0+1) Lc')=>h.put hi (by omega) ky vv hs' hh2)
    have HSUM:=hiq hsum
    have HBD:=hiq hbd
    have hwz:w.heap.size≤wr.heap.size:=KS.out.c.size
    have hNX:¬ZD p0 pt k wr.heap.size:=fun e=>by have:=HZL.out _ e;omega
    have hXw:=hv.v.blt
    clear hcl hrow hh1 hs hv hsum hbd
    go_upto_region 8 with (fail)
    refine wp_at (fun w5 hw5=>?_)
    have hB5:Below wr.heap.size wr w5:=by rw [hw5];go_grown
    have S5:=hiq (HVr.out.later hB5)
    have R5:=hiq (ownsRow_later KS.out.r hB5)
    have C5:=hiq (KS.out.c.thenBelow hB5)
    have P5:=hiq (show Blk w5 wr.heap.size 41 #[.int .u64 ky,.int .u64 vv,.int .u64 (hs':Int)] by rw [hw5];exact Blk.new _ _ _)
    obtain ⟨q0,q1,q2⟩:=cells3 P5.out
    have zP:=P5.out.lt
    have zX5:=S5.out.v.blt
    replace hw5:=hiq hw5
    clear KS g0 g1 g2 hbz hB5
    by_cases hpb:(s.1 i).putB ky hs'=true
    · rw [hpb,putN_new hpb] at PU
      have HPB:=hiq hpb
      clear hpb
      refine wp_region_seq (ZD p0 pt k) #[⟨0,0,562949953421312,1,0⟩,⟨0,0,1125899906842624,128,0⟩,⟨2,2,2251799813685248,1125899906842624,1⟩,⟨5,7,4503599627370496,2814749767106560,2⟩,⟨0,0,9007199254740992,128,1⟩,⟨24,31,18014398509481984,13510798882111488,3⟩,⟨32,63,281474976710656,18014398509481984,0⟩,⟨64,127,36028797018963968,281474976710656,0⟩,⟨64,127,72057594037927936,281474976710656,0⟩,⟨255,255,256,36028797018963968,0⟩,⟨1023,1023,512,72057594037927936,0⟩] 20 [(0,0),(1,0),(2,1),(4,1),(3,2),(5,3),(6,0),(7,0),(8,0),(9,0),(10,0)] (by kernel_rfl) (by kernel_rfl) (by kernel_rfl) (by kernel_rfl) (by kernel_rfl) (by kernel_rfl) (fun c a d v w h=>by cases d <;> exact h) ?_
      refine zqC ?_;refine zqC ?_
      refine zq1 Tryz.underlying39 ?_
      try refine zqP ?_
      refine zqL [_,_,_] Tryz.underlying41 ?_
      try refine zqP ?_
      refine zqD fun K hK=>?_;go_wp2_with ((go_at_call 96;(with_reducible refine (TG.out _ S5.out.drew.v).mono ?_);rintro e w6 ⟨rfl,hb6⟩;have S6:=hiq (S5.out.drew.later hb6)));refine hkA hK (h:=?_);clear hK K
      try refine zqP ?_
      refine zqE fun K hK=>?_;go_wp2_with ((go_at_call 46;(with_reducible refine (PU.out _ S6.out).mono ?_);rintro e w8 ⟨rfl,hv8,hc8⟩;have V8:=hiq hv8;have R8:=hiq (ownsRow_chg (ownsRow_later (show w5.drew.ownsRow _ _ _ _ _ _ from R5.out) hb6) hc8 (fun b' hb' e=>by have:=HZL.out _ e;omega));have C8:=hiq ((C5.out.drew.thenBelow hb6).trans (hc8.mono (fun _ _ e=>show ZD p0 pt k _∨_=X from .inl e)));clear hv8));refine hK.out _ _ ?_;clear hK K
      try refine zqP ?_;refine zqC ?_;refine zqC ?_;refine zqC ?_;refine zqC ?_;refine zqC ?_
      refine seq_nil ?_
      go_wp2
      go_roundw
      case rel =>
       refine ⟨j+1,by omega,by go_num,?_,fun i' hi' hlt'=>?_⟩
       · rw [HT.out]
         refine ⟨⟨_,V8.out,?_,?_⟩,R8.out,C8.out⟩
         · rw [sumI_upd hi,HSUM.out];simp only [Int.natCast_add];omega
         · intro q hq
           by_cases e:q=i
           · subst e;rw [upd_same];have:=HBD.out q hq;omega
           · rw [upd_other _ _ e];have:=HBD.out q hq;omega
       · by_cases e:i'=j
         · subst e;rw [hq1.out,hq2.out,hq3.out,←HSE.out];exact HPB.out
         · exact HOK.out i' hi' (by omega)
      case measure=>simp [intOf];omega
    · replace hpb:(s.1 i).putB ky hs'=false:=by simpa using hpb
      rw [hpb] at PU
      have HPB:=hiq hpb
      generalize (s.1 i).putN ky hs'=pn at *
      clear hpb
      refine wp_region_seq (ZD p0 pt k) #[⟨0,0,562949953421312,1,0⟩,⟨0,0,1125899906842624,128,0⟩,⟨2,2,2251799813685248,1125899906842624,1⟩,⟨5,7,4503599627370496,2814749767106560,2⟩,⟨0,0,9007199254740992,128,1⟩,⟨24,31,18014398509481984,13510798882111488,3⟩,⟨32,63,281474976710656,18014398509481984,0⟩,⟨64,127,36028797018963968,281474976710656,0⟩,⟨64,127,72057594037927936,281474976710656,0⟩,⟨255,255,256,36028797018963968,0⟩,⟨1023,1023,512,72057594037927936,0⟩] 20 [(0,0),(1,0),(2,1),(4,1),(3,2),(5,3),(6,0),(7,0),(8,0),(9,0),(10,0)] (by kernel_rfl) (by kernel_rfl) (by kernel_rfl) (by kernel_rfl) (by kernel_rfl) (by kernel_rfl) (fun c a d v w h=>by cases d <;> exact h) ?_
      refine zqC ?_;refine zqC ?_
      refine zq1 Tryz.underlying39 ?_
      try refine zqP ?_
      refine zqL [_,_,_] Tryz.underlying41 ?_
      try refine zqP ?_
      refine zqD fun K hK=>?_;go_wp2_with ((go_at_call 96;(with_reducible refine (TG.out _ S5.out.drew.v).mono ?_);rintro e w6 ⟨rfl,hb6⟩;have S6:=hiq (S5.out.drew.later hb6)));refine hkA hK (h:=?_);clear hK K
      try refine zqP ?_
      refine zqE fun K hK=>?_;go_wp2_with ((go_at_call 46;(with_reducible refine (PU.out _ S6.out).mono ?_);rintro e w8 ⟨rfl,hv8,hc8⟩;have C8:=hiq ((C5.out.drew.thenBelow hb6).trans (hc8.mono (fun _ _ e=>show ZD p0 pt k _∨_=X from .inl e)));clear hv8));refine hK.out _ _ ?_;clear hK K
      try refine zqP ?_;refine zqC ?_;refine zqC ?_;refine zqC ?_;refine zqC ?_;refine zqC ?_
      refine seq_nil ?_
      go_wp2
      go_ret2
      exact ⟨true,rfl,fun e=>(by cases e),fun _ h=>(by have:=h j hlt;rw [hq1.out,hq2.out,hq3.out,←HSE.out,HPB.out] at this;cases this),fun e=>(by cases e),C8.out⟩
  · obtain rfl:j=l.length:=by omega
    rw [List.take_length] at KS
    go_wp2
    go_ret2
    obtain ⟨Lc',hv,hsum,hbd⟩:=KS.out.e
    exact ⟨false,rfl,fun _ i hi=>HOK.out i hi hi,fun e=>(by cases e),fun _=>⟨Lc',hv,hsum,fun i hi=>by have:=hbd i hi;omega⟩,KS.out.c⟩
end
structure DM (w:World) (Rb X gt tcap:Nat) (p0:PB) (pt:Nat→PB) (s:DuS) (tk:Bool) (L0:Int) (Lc:Nat→Int):Prop where
 hd:Blk w Rb 45 #[.pointer (some ⟨X,0,none⟩),.int .i64 (s.bare:Int),.bool tk]
 r:RV w X gt tcap s.k p0 pt s.d s.nx s.T s.U L0 Lc
 ne:Rb≠X∧Rb≠gt∧∀b,ZD p0 pt s.k b→b≠Rb
def DMX (Rb X:Nat) (p0:PB) (pt:Nat→PB) (k:Nat) (b:Nat):Prop:=b=Rb∨b=X∨ZD p0 pt k b
section
variable {w w':World} {Rb X gt tcap:Nat} {p0:PB} {pt:Nat→PB} {s:DuS} {tk:Bool} {L0:Int} {Lc:Nat→Int}
theorem DM.later (h:DM w Rb X gt tcap p0 pt s tk L0 Lc) (hb:Below w.heap.size w w'):DM w' Rb X gt tcap p0 pt s tk L0 Lc:=⟨h.hd.below hb h.hd.lt,h.r.later hb,h.ne⟩
theorem DM.chg {Y:Nat→Prop} (h:DM w Rb X gt tcap p0 pt s tk L0 Lc) (hc:Chg Y w w') (hY:∀b,DMX Rb X p0 pt s.k b→¬Y b) (hg:¬Y gt):DM w' Rb X gt tcap p0 pt s tk L0 Lc :=
 ⟨h.hd.chg hc (hY Rb (.inl rfl)),h.r.chg hc (fun b e=>hY b (.inr (.inr e))) (hY X (.inr (.inl rfl))) hg,h.ne⟩
theorem DM.turn {T':TabS} {U':Nat→TabS} {nx':Nat} {L0':Int} {Lc':Nat→Int} (h:DM w Rb X gt tcap p0 pt s tk L0 Lc) (hr:RV w' X gt tcap s.k p0 pt s.d nx' T' U' L0' Lc') (hc:Chg (fun b=>ZD p0 pt s.k b∨b=X) w w'):DM w' Rb X gt tcap p0 pt { s with T:=T',U:=U',nx:=nx'} tk L0' Lc' :=
 ⟨h.hd.chg hc (by rintro (e|e);exact h.ne.2.2 _ e rfl;exact h.ne.1 e),hr,h.ne⟩
theorem DM.left (h:DM w Rb X gt tcap p0 pt s tk L0 Lc) (hok:DuOK s):Calls Tryz.prog 24 #[.pointer (some ⟨Rb,0,none⟩)] w fun e w'=>e = .returned (.int .i64 ((s.left:Nat):Int))∧Below w.heap.size w w':=by
 have hn:=hok.t.bounds
 have hx:=hok.hx
 have hgb:=right_bd hok.hr
 have hb:=hok.hb
 have hk2:s.k*s.gn≤2*64:=Nat.mul_le_mul (by rcases hok.hk with e|e <;> omega) hgb.2
 obtain ⟨c0,c1,c2,c3,zX,fX⟩:=vmcells h.r.v
 obtain ⟨P,cap,d0⟩:=h.r.o.head
 have zD:=h.r.o.lt
 have r0:=h.hd.cell 0
 have r1:=h.hd.cell 1
 have zR:=h.hd.lt
 have e1:IntKind.i64.wrap ((s.bare:Int)+(s.T.n:Int))=(s.bare:Int)+(s.T.n:Int):=by rw [IntKind.wrap_i64];omega
 have e2:IntKind.i64.wrap ((s.bare:Int)+(s.T.n:Int)-(s.nx:Int))=((s.left:Nat):Int):=by unfold DuS.left;rw [IntKind.wrap_i64];omega
 clear h hok c2 fX
 go_enter Tryz.func24,Tryz.ntmps24
 go_wp2
 refine wp_region_seq (fun _=>False) #[⟨0,0,8,1,0⟩,⟨1,1,16,8,0⟩,⟨2,3,32,16,0⟩,⟨4,7,64,32,1⟩,⟨0,0,128,1,0⟩,⟨16,16,256,128,0⟩,⟨32,48,512,256,0⟩,⟨64,112,1024,512,1⟩,⟨128,240,2048,1024,0⟩,⟨256,496,4096,2048,0⟩,⟨512,1008,8192,4096,1⟩,⟨1024,2032,16384,8192,0⟩,⟨2048,4080,32768,16384,0⟩,⟨4096,8176,65536,32768,1⟩,⟨8192,16368,131072,65536,0⟩,⟨16392,32767,262144,131136,0⟩,⟨0,0,524288,1,0⟩,⟨65536,65536,1048576,524288,0⟩,⟨131072,196608,2097152,1048576,0⟩,⟨262144,458752,4194304,2097152,1⟩,⟨524288,983040,8388608,4194304,0⟩,⟨1048576,2031616,16777216,8388608,0⟩,⟨2097152,4128768,33554432,16777216,1⟩,⟨4227072,8388607,67108864,33816576,0⟩,⟨16777215,16777215,4,67108864,0⟩] 4727944 [(0,0),(1,0),(2,0),(3,1),(4,0),(5,0),(6,0),(7,1),(8,0),(9,0),(10,1),(11,0),(12,0),(13,1),(14,0),(15,0),(16,0),(17,0),(18,0),(19,1),(20,0),(21,0),(22,1),(23,0),(24,0)] (by kernel_rfl) (by kernel_rfl) (by kernel_rfl) (by kernel_rfl) (by kernel_rfl) (by kernel_rfl) (fun c a d v w h=>by cases d <;> exact h) ?_
 refine zqC ?_;refine zqC ?_;refine zqC ?_
 refine zq1 Tryz.underlying3 ?_
 try refine zqP ?_;refine zqC ?_;refine zqC ?_;refine zqC ?_
 refine zq1 Tryz.underlying43 ?_
 try refine zqP ?_;refine zqC ?_;refine zqC ?_
 refine zq1 Tryz.underlying70 ?_
 try refine zqP ?_;refine zqC ?_;refine zqC ?_
 refine zq1 Tryz.underlying96 ?_
 try refine zqP ?_;refine zqC ?_;refine zqC ?_;refine zqC ?_;refine zqC ?_;refine zqC ?_
 refine zq1 Tryz.underlying43 ?_
 try refine zqP ?_;refine zqC ?_;refine zqC ?_
 refine zq1 Tryz.underlying3 ?_
 try refine zqP ?_;refine zqC ?_;refine zqC ?_
 refine seq_nil ?_
 go_wp2
 go_ret
 exact ⟨rfl,(Below.refl _ _).drew⟩
theorem DM.prep (h:DM w Rb X gt tcap p0 pt s tk L0 Lc) (hok:DuOK s) (hb:0<s.bare):Calls Tryz.prog 31 #[.pointer (some ⟨Rb,0,none⟩)] w fun e w' =>
 e = .returned (.tuple #[.bool true,.bool false])∧DM w' Rb X gt tcap p0 pt s.prep tk L0 Lc∧Chg (DMX Rb X p0 pt s.k) w w':=by
 have hgb:=right_bd hok.hr
 have hbb:=hok.hb
 have hk2:s.k*s.gn≤2*64:=Nat.mul_le_mul (by rcases hok.hk with e|e <;> omega) hgb.2
 have r1:=h.hd.cell 1
 have zR:=h.hd.lt
 have rf:=fun j=>h.hd.frozen j
 have hbI:(0:Int)<(s.bare:Int):=by omega
 have e1:IntKind.i64.wrap ((s.bare:Int)-1)=((s.bare-1:Nat):Int):=by rw [IntKind.wrap_i64];omega
 have HH:=hiq h
 clear h hok
 go_enter Tryz.func31,Tryz.ntmps31
 go_wp2
 go_ret2
 have hC:Chg (fun b=>b=Rb) w (w.setCell ⟨Rb,1,none⟩ (.int .i64 ((s.bare-1:Nat):Int))):=(Chg.refl _ _).set1 _ _
 exact ⟨rfl,⟨HH.out.hd.set 1 _,HH.out.r.chg hC (fun b e e2=>HH.out.ne.2.2 b e e2) (fun e=>HH.out.ne.1 e.symm) (fun e=>HH.out.ne.2.1 e.symm),HH.out.ne⟩,hC.mono (fun b _ e => .inl e)⟩
theorem DM.stepNo (h:DM w Rb X gt tcap p0 pt s tk L0 Lc) (hb:s.bare=0) (hn:s.nx=s.T.n):Calls Tryz.prog 31 #[.pointer (some ⟨Rb,0,none⟩)] w fun e w' =>
 e = .returned (.tuple #[.bool false,.bool false])∧Below w.heap.size w w':=by
 have r0:=h.hd.cell 0
 have r1:=h.hd.cell 1
 rw [hb] at r1
 have zR:=h.hd.lt
 have ST:=hiq (rstep_no h.r hn)
 clear h
 go_enter Tryz.func31,Tryz.ntmps31
 go_wp2_with (go_at_call 74;(with_reducible refine ST.out.mono ?_);rintro e w2 ⟨rfl,hb2⟩;have B2:=hiq hb2)
 go_ret2
 exact ⟨rfl,B2.out⟩
theorem DM.step (h:DM w Rb X gt tcap p0 pt s tk L0 Lc) (hb:s.bare=0) (hL:0≤L0∧L0≤100000000) (mL:Int) (hmL:0≤mL∧mL≤100000000) (hn:s.nx<s.T.n) (hLc:∀i,i<s.k→0≤Lc i∧Lc i≤mL):Calls Tryz.prog 31 #[.pointer (some ⟨Rb,0,none⟩)] w fun e w' =>
 ∃b,e = .returned (.tuple #[.bool true,.bool b])∧(b=false→EvOk s.k s.d (entsL (s.T.M s.nx) (s.T.S s.nx)) s.U)∧(b=true→¬EvOk s.k s.d (entsL (s.T.M s.nx) (s.T.S s.nx)) s.U)∧
  (b=false→∃Lc',DM w' Rb X gt tcap p0 pt s.move tk (L0+1) Lc'∧sumI Lc' s.k=sumI Lc s.k+((evF s.k s.d (entsL (s.T.M s.nx) (s.T.S s.nx)) (s.U,0)).2:Nat)∧∀i,i<s.k→0≤Lc' i∧Lc' i≤mL+512)∧
  Chg (DMX Rb X p0 pt s.k) w w':=by
 have r0:=h.hd.cell 0
 have r1:=h.hd.cell 1
 rw [hb] at r1
 have zR:=h.hd.lt
 have HH:=hiq h
 have ST:=hiq (rstepG_any h.r hL mL hmL hn hLc)
 clear h
 go_enter Tryz.func31,Tryz.ntmps31
 go_wp2_with (go_at_call 74;(with_reducible refine ST.out.mono ?_);rintro e w2 ⟨b,rfl,h1,h2,h3,h4⟩;have H1:=hiq h1;have H2:=hiq h2;have H3:=hiq h3;have H4:=hiq h4;clear h1 h2 h3 h4)
 go_ret2
 refine ⟨b,rfl,H1.out,H2.out,fun hf=>?_,H4.out.mono (fun b _ e=>by rcases e with e|e;exact .inr (.inr e);exact .inr (.inl e))⟩
 obtain ⟨Lc',q1,q2,q3⟩:=H3.out hf
 exact ⟨Lc',HH.out.turn q1 H4.out,q2,q3⟩
end
section
variable {w w':World} {X gt tcap k:Nat} {p0:PB} {pt:Nat→PB} {d next:Nat} {T T':TabS} {U:Nat→TabS} {L0 L':Int} {Lc:Nat→Int}
theorem RV.oldTurn (h:RV w X gt tcap k p0 pt d next T U L0 Lc) (hd:DX w' p0.mid p0.hi p0.D T' L') (hc:Chg (fun b=>p0.mid≤b∧b<p0.hi) w w'):RV w' X gt tcap k p0 pt d next T' U L' Lc∧Chg (ZD p0 pt k) w w' :=
 ⟨⟨h.v.chg hc (fun e=>(h.x X (.inl e)).1 rfl) (fun e=>(h.x gt (.inl e)).2 rfl),hd,fun j hj=>(h.t j hj).chg hc (fun b a c e=>by have:=h.s0 j hj;omega),h.s0,h.s1,h.x⟩,hc.mono (fun b _ e => .inl e)⟩
theorem RV.tgtTurn {i:Nat} (hi:i<k) (h:RV w X gt tcap k p0 pt d next T U L0 Lc) (hd:DX w' (pt i).mid (pt i).hi (pt i).D T' L') (hc:Chg (fun b=>(pt i).mid≤b∧b<(pt i).hi) w w'):RV w' X gt tcap k p0 pt d next T (upd U i T') L0 (upd Lc i L')∧Chg (ZD p0 pt k) w w':=by
 refine ⟨⟨h.v.chg hc (fun e=>(h.x X (.inr ⟨i,hi,e⟩)).1 rfl) (fun e=>(h.x gt (.inr ⟨i,hi,e⟩)).2 rfl),h.o.chg hc (fun b a c e=>by have:=h.s0 i hi;omega),fun j hj=>?_,h.s0,h.s1,h.x⟩,hc.mono (fun b _ e => .inr ⟨i,hi,e⟩)⟩
 by_cases e:j=i
 · subst e;rw [upd_same,upd_same];exact hd
 · rw [upd_other _ _ e,upd_other _ _ e]
   refine (h.t j hj).chg hc (fun b a c e2=>?_)
   rcases Nat.lt_or_gt_of_ne e with c2|c2
   · have:=h.s1 j i c2 hi;omega
   · have:=h.s1 i j c2 hj;omega
end
def DuS.atI (s:DuS) (key:Int) (h:Nat):Int:=if s.inU key h=true then 0 else if s.T.has key h=true then (if s.bare=0 then 1 else 0) else -1
theorem atI_has (s:DuS) (key:Int) (h:Nat):decide (s.atI key h≥0)=s.has key h:=by
 unfold DuS.atI DuS.has
 cases c1:s.inU key h <;> cases c2:s.T.has key h <;> simp
 by_cases hb:s.bare=0 <;> simp [hb]
section
variable {w w':World} {Rb X gt tcap:Nat} {p0:PB} {pt:Nat→PB} {s:DuS} {tk:Bool} {L0:Int} {Lc:Nat→Int} {hs:Nat}
theorem DM.oldTurn {T':TabS} {L':Int} (h:DM w Rb X gt tcap p0 pt s tk L0 Lc) (hd:DX w' p0.mid p0.hi p0.D T' L') (hc:Chg (fun b=>p0.mid≤b∧b<p0.hi) w w'):DM w' Rb X gt tcap p0 pt (s.setT T') tk L' Lc∧Chg (DMX Rb X p0 pt s.k) w w':=by
 obtain ⟨h1,h2⟩:=h.r.oldTurn hd hc
 exact ⟨⟨h.hd.chg h2 (fun e=>h.ne.2.2 _ e rfl),h1,h.ne⟩,h2.mono (fun _ _ e => .inr (.inr e))⟩
theorem DM.tgtTurn {i:Nat} {T':TabS} {L':Int} (hi:i<s.k) (h:DM w Rb X gt tcap p0 pt s tk L0 Lc) (hd:DX w' (pt i).mid (pt i).hi (pt i).D T' L') (hc:Chg (fun b=>(pt i).mid≤b∧b<(pt i).hi) w w'):DM w' Rb X gt tcap p0 pt (s.setU i T') tk L0 (upd Lc i L')∧Chg (DMX Rb X p0 pt s.k) w w':=by
 obtain ⟨h1,h2⟩:=h.r.tgtTurn hi hd hc
 exact ⟨⟨h.hd.chg h2 (fun e=>h.ne.2.2 _ e rfl),h1,h.ne⟩,h2.mono (fun _ _ e => .inr (.inr e))⟩
theorem setU_self (s:DuS) (i:Nat):s.setU i (s.U i)=s:=by unfold DuS.setU;rw [upd_self]
theorem DM.rowsA (h:DM w Rb X gt tcap p0 pt s tk L0 Lc) (hb:0<s.bare) (hs:Int):Calls Tryz.prog 52 #[.pointer (some ⟨Rb,0,none⟩),.int .u64 hs] w fun e w' =>
 ∃g,e = .returned (.slice (some ⟨g,0,none⟩) 1 1)∧w.heap.size≤g∧Blk w' g 70 #[.pointer (some ⟨p0.D,0,none⟩)]∧Below w.heap.size w w':=by
 have r0:=h.hd.cell 0
 have r1:=h.hd.cell 1
 have zR:=h.hd.lt
 obtain ⟨c0,c1,c2,c3,zX,fX⟩:=vmcells h.r.v
 have hbI:(0:Int)<(s.bare:Int):=by omega
 clear h c2
 go_enter Tryz.func52,Tryz.ntmps52
 go_wp2
 go_ret
 exact ⟨_,rfl,Nat.le_refl _,Blk.new _ _ _,(Below.refl _ _).alloc (Nat.le_refl _) _⟩
theorem DM.rowsB (h:DM w Rb X gt tcap p0 pt s tk L0 Lc) (hb:s.bare=0) (hs:Nat) (hh:hs<18446744073709551616):Calls Tryz.prog 52 #[.pointer (some ⟨Rb,0,none⟩),.int .u64 (hs:Int)] w fun e w' =>
 ∃g,e = .returned (.slice (some ⟨g,0,none⟩) 2 2)∧w.heap.size≤g∧Blk w' g 70 #[.pointer (some ⟨(pt (s.y hs)).D,0,none⟩),.pointer (some ⟨p0.D,0,none⟩)]∧Below w.heap.size w w':=by
 have r0:=h.hd.cell 0
 have r1:=h.hd.cell 1
 rw [hb] at r1
 have zR:=h.hd.lt
 obtain ⟨c0,c1,c2,c3,zX,fX⟩:=vmcells h.r.v
 have TG:=hiq (fun (w':World) (h':VM w' X p0.D gt tcap s.k (fun i=>(pt i).D) s.d s.nx)=>rtarget_any X p0.D gt tcap s.k (fun i=>(pt i).D) s.d s.nx hs hh w' h')
 rw [show tIx s.k s.d hs=s.y hs from rfl] at TG
 have HV:=hiq h.r.v
 generalize (pt (s.y hs)).D=td at *
 clear h c2
 go_enter Tryz.func52,Tryz.ntmps52
 go_wp2
 refine wp_region_seq (fun _=>False) #[⟨0,0,262144,1,0⟩,⟨1,1,524288,262144,0⟩,⟨2,3,1048576,524288,0⟩,⟨4,7,2097152,1048576,1⟩,⟨0,0,4194304,2,0⟩,⟨24,31,8388608,6291456,2⟩,⟨0,0,16777216,1,0⟩,⟨64,64,33554432,16777216,0⟩,⟨128,192,67108864,33554432,0⟩,⟨256,448,134217728,67108864,1⟩,⟨512,960,268435456,134217728,0⟩,⟨1024,1984,536870912,268435456,0⟩,⟨2048,4032,1073741824,536870912,1⟩,⟨4128,8191,2147483648,1082130432,3⟩,⟨16383,16383,16,2147483648,0⟩] 4616 [(0,0),(1,0),(2,0),(3,1),(4,0),(6,0),(7,0),(8,0),(9,1),(10,0),(11,0),(12,1),(5,2),(13,3),(14,0)] (by kernel_rfl) (by kernel_rfl) (by kernel_rfl) (by kernel_rfl) (by kernel_rfl) (by kernel_rfl) (fun c a d v w h=>by cases d <;> exact h) ?_
 refine zqC ?_;refine zqC ?_;refine zqC ?_
 refine zq1 Tryz.underlying43 ?_
 try refine zqP ?_;refine zqC ?_;refine zqC ?_;refine zqC ?_;refine zqC ?_
 refine zq1 Tryz.underlying43 ?_
 try refine zqP ?_;refine zqC ?_;refine zqC ?_
 refine zq1 Tryz.underlying70 ?_
 try refine zqP ?_
 refine zqD fun K hK=>?_;go_wp2_with ((go_at_call 96;(with_reducible refine (TG.out _ (HV.out.later (Below.refl _ _).drew)).mono ?_);rintro e w2 ⟨rfl,hb2⟩;have B2:=hiq (Below.undrew hb2);have hz2:=B2.out.size));refine hkA hK (h:=?_);clear hK K
 try refine zqP ?_
 refine zqE fun K hK=>?_;go_wp2_with (fail);refine hK.out _ _ ?_;clear hK K
 try refine zqP ?_;refine zqC ?_
 refine seq_nil ?_
 go_wp2
 go_ret
 exact ⟨_,rfl,hz2,Blk.new _ _ _,B2.out.alloc hz2 _⟩
theorem DM.lt (h:DM w Rb X gt tcap p0 pt s tk L0 Lc):∀b,DMX Rb X p0 pt s.k b→b<w.heap.size:=fun b e=>by
 rcases e with e|e|e
 · rw [e];exact h.hd.lt
 · rw [e];exact h.r.v.blt
 · exact h.r.zlt b e
theorem DM.findOld (h:DM w Rb X gt tcap p0 pt s tk L0 Lc) (hL:0≤L0∧L0≤1000000000) (key:Int) (hs:Nat) (hh:hs<18446744073709551616) :
 Calls Tryz.prog 59 #[.pointer (some ⟨p0.D,0,none⟩),.int .u64 key,.int .u64 (hs:Int)] w fun e w' =>
  e = .returned (.tuple #[.agg #[.int .u64 (s.T.ent key hs).key,.int .u64 (s.T.ent key hs).val,.int .u64 (s.T.ent key hs).hash],.bool (s.T.has key hs)])∧DM w' Rb X gt tcap p0 pt s tk (L0+s.T.looks key hs) Lc∧Chg (DMX Rb X p0 pt s.k) w w':=by
 refine (h.r.o.find hL key hs hh).mono ?_
 rintro e w' ⟨rfl,h1,h2⟩
 have hid:=h.r.o.id
 obtain ⟨h3,h4⟩:=h.oldTurn h1 (h2.mono (fun b _ e=>by omega))
 exact ⟨rfl,h3,h4⟩
theorem DM.findT {i:Nat} (hi:i<s.k) (h:DM w Rb X gt tcap p0 pt s tk L0 Lc) (hL:0≤Lc i∧Lc i≤1000000000) (key:Int) (hs:Nat) (hh:hs<18446744073709551616) :
 Calls Tryz.prog 59 #[.pointer (some ⟨(pt i).D,0,none⟩),.int .u64 key,.int .u64 (hs:Int)] w fun e w' =>
  e = .returned (.tuple #[.agg #[.int .u64 ((s.U i).ent key hs).key,.int .u64 ((s.U i).ent key hs).val,.int .u64 ((s.U i).ent key hs).hash],.bool ((s.U i).has key hs)])∧DM w' Rb X gt tcap p0 pt s tk L0 (upd Lc i (Lc i+(s.U i).looks key hs))∧Chg (DMX Rb X p0 pt s.k) w w':=by
 refine ((h.r.t i hi).find hL key hs hh).mono ?_
 rintro e w' ⟨rfl,h1,h2⟩
 have hid:=(h.r.t i hi).id
 obtain ⟨h3,h4⟩:=h.tgtTurn hi h1 (h2.mono (fun b _ e=>by omega))
 rw [setU_self] at h3
 exact ⟨rfl,h3,h4⟩
theorem DM.findA (h:DM w Rb X gt tcap p0 pt s tk L0 Lc) (hb:0<s.bare) (hL:0≤L0∧L0≤1000000000) (key:Int) (hs:Nat) (hh:hs<18446744073709551616) :
 Calls Tryz.prog 18 #[.pointer (some ⟨Rb,0,none⟩),.int .u64 key,.int .u64 (hs:Int)] w fun e w' =>
  e = .returned (.tuple #[.agg #[.int .u64 (s.T.ent key hs).key,.int .u64 (s.T.ent key hs).val,.int .u64 (s.T.ent key hs).hash],.int .i64 (if s.T.has key hs=true then 0 else -1)])∧DM w' Rb X gt tcap p0 pt s tk (L0+s.T.looks key hs) Lc∧Chg (DMX Rb X p0 pt s.k) w w':=by
 have HH:=hiq h
 have RW:=hiq (fun (w':World) (h':DM w' Rb X gt tcap p0 pt s tk L0 Lc)=>h'.rowsA hb (hs:Int))
 have FO:=hiq (fun (w':World) (h':DM w' Rb X gt tcap p0 pt s tk L0 Lc)=>h'.findOld hL key hs hh)
 have HLT:=hiq h.lt
 have hno:s.T.has key hs=false→s.T.ent key hs=EntS.zero:=fun e=>TFun.ent_not e
 have HNO:=hiq hno
 obtain ⟨en,hen⟩:=exq (s.T.ent key hs)
 rw [←hen] at FO HNO ⊢
 replace hen:=hiq hen
 obtain ⟨k0,k1,k2⟩:=en
 dsimp only at FO ⊢
 obtain ⟨B6,hB6⟩:=exq w.heap.size
 have hB6':w.heap.size≤B6:=Nat.le_of_eq hB6.symm
 have hNX:∀b,B6≤b→¬DMX Rb X p0 pt s.k b:=fun b hb e=>by have:=HLT.out b e;omega
 cases hq:s.T.has key hs with
 | true =>
  rw [hq] at FO
  clear h hno hq
  simp only [if_true]
  go_enter Tryz.func18,Tryz.ntmps18
  go_wp2_with (go_at_call 52;(with_reducible refine (RW.out _ (HH.out.later (by go_grown))).mono ?_);rintro e w1 ⟨g,rfl,hg,hgb,hb1⟩;have D1:=hiq ((HH.out.later ((Below.refl w.heap.size w).alloc (Nat.le_refl _) (.cells #[.int .u64 0,.int .u64 0,.int .u64 0] 41))).later hb1);have R1:=hiq ((Blk.new w 41 #[.int .u64 0,.int .u64 0,.int .u64 0]).below hb1 (by simp));have G1:=hiq hgb;have hg':w.heap.size≤g:=Nat.le_trans ((Below.refl w.heap.size w).alloc (Nat.le_refl _) (.cells #[.int .u64 0,.int .u64 0,.int .u64 0] 41)).size hg;have HB1:=hiq hb1;have z1:=hb1.size)
  go_loopw [16] (fun v16 wr=>v16 = .int .i64 0∧wr=w1) (fun _ _=>0)
  case atStart=>exact ⟨rfl,rfl⟩
  case round =>
   obtain ⟨rfl,rfl⟩:=hrel
   have g0:=G1.out.cell 0
   have zg:=G1.out.lt
   go_wp2_with (go_at_call 59;(with_reducible refine (FO.out _ D1.out).mono ?_);rintro e w2 ⟨rfl,hd2,hc2⟩;have D2:=hiq hd2;have C2:=hiq hc2;have R2:=hiq (R1.out.chg hc2 (hNX _ (by omega)));have r2:=cells3 R2.out;have r20:=r2.1;have r21:=r2.2.1;have r22:=r2.2.2;have zr2:=R2.out.lt;have rf2:=fun j=>R2.out.frozen j;clear r2 hd2 hc2)
   go_wp2
   refine wp_end_at (fun Wf hWf=>?_)
   have hR':=(((R2.out.set 0 (.int .u64 k0)).set 1 (.int .u64 k1)).set 2 (.int .u64 k2))
   have hR:Blk Wf w.heap.size 41 #[.int .u64 k0,.int .u64 k1,.int .u64 k2]:=by rw [hWf];exact hR'.below ((Below.refl _ _).alloc (Nat.le_refl _) _) hR'.lt
   obtain ⟨r0,r1,r2⟩:=cells3 hR
   have hCf:Chg (fun b=>b=w.heap.size) w2 Wf:=by rw [hWf];exact ((((Chg.refl _ _).set1 _ _).set1 _ _).set1 _ _).alloc _
   clear hWf
   refine bodyPost_ret (v := .tuple #[.agg #[.int .u64 k0,.int .u64 k1,.int .u64 k2],.int .i64 0]) (by simp [results,Tryz.results18,go_sem,r0,r1,r2]) rfl ⟨rfl,?_,?_⟩
   · exact D2.out.chg hCf (fun b e e2=>hNX b (by omega) e) (fun e=>by have:=HH.out.r.v.lt;omega)
   · exact (((((Chg.refl _ w).alloc _).thenBelow HB1.out).trans C2.out)).trans' hCf (fun b hb e=>by omega)
 | false =>
  rw [hq] at FO
  have hz:=HNO.out hq
  injection hz with e0 e1 e2
  subst e0;subst e1;subst e2
  clear h hno hq HNO
  simp only [Bool.false_eq_true,if_false]
  go_enter Tryz.func18,Tryz.ntmps18
  go_wp2_with (go_at_call 52;(with_reducible refine (RW.out _ (HH.out.later (by go_grown))).mono ?_);rintro e w1 ⟨g,rfl,hg,hgb,hb1⟩;have D1:=hiq ((HH.out.later ((Below.refl w.heap.size w).alloc (Nat.le_refl _) (.cells #[.int .u64 0,.int .u64 0,.int .u64 0] 41))).later hb1);have R1:=hiq ((Blk.new w 41 #[.int .u64 0,.int .u64 0,.int .u64 0]).below hb1 (by simp));have G1:=hiq hgb;have hg':w.heap.size≤g:=Nat.le_trans ((Below.refl w.heap.size w).alloc (Nat.le_refl _) (.cells #[.int .u64 0,.int .u64 0,.int .u64 0] 41)).size hg;have HB1:=hiq hb1;have z1:=hb1.size)
  go_loopw [16] (fun v16 wr=>(v16 = .int .i64 0∧wr=w1)∨(v16 = .int .i64 1∧∃w2,Hid (DM w2 Rb X gt tcap p0 pt s tk (L0+(s.T.looks key hs:Nat)) Lc)∧Hid (Chg (DMX Rb X p0 pt s.k) w1 w2)∧Hid (Blk w2 w.heap.size 41 #[.int .u64 0,.int .u64 0,.int .u64 0])∧wr=w2.alloc (.cells #[.int .u64 0,.int .u64 0,.int .u64 0] 41))) (fun v16 _=>match v16 with | .int _ z=>(1-z).toNat|_=>0)
  case atStart=>exact .inl ⟨rfl,rfl⟩
  case round =>
   rcases hrel with ⟨rfl,rfl⟩ | ⟨rfl,w2,D2,C2,R2,rfl⟩
   · have g0:=G1.out.cell 0
     have zg:=G1.out.lt
     go_wp2_with (go_at_call 59;(with_reducible refine (FO.out _ D1.out).mono ?_);rintro e w2 ⟨rfl,hd2,hc2⟩;have D2:=hiq hd2;have C2:=hiq hc2;have R2:=hiq (R1.out.chg hc2 (hNX _ (by omega)));clear hd2 hc2)
     exact ⟨.inr ⟨rfl,w2,D2,C2,R2,rfl⟩,by decide⟩
   · have r2:=cells3 R2.out
     have r20:=r2.1
     have r21:=r2.2.1
     have r22:=r2.2.2
     have zr2:=R2.out.lt
     have rf2:=fun j=>R2.out.frozen j
     clear r2
     go_wp2
     refine wp_end_at (fun Wf hWf=>?_)
     have hR':=(((R2.out.set 0 (.int .u64 0)).set 1 (.int .u64 0)).set 2 (.int .u64 0))
     have hR:Blk Wf w.heap.size 41 #[.int .u64 0,.int .u64 0,.int .u64 0]:=by rw [hWf];exact hR'.below ((Below.refl _ _).alloc (Nat.le_refl _) _) hR'.lt
     obtain ⟨r0,r1,r2⟩:=cells3 hR
     have hCf:Chg (fun b=>b=w.heap.size) w2 Wf:=by rw [hWf];exact ((((Chg.refl _ _).set1 _ _).set1 _ _).set1 _ _).alloc _
     clear hWf
     refine bodyPost_ret (v := .tuple #[.agg #[.int .u64 0,.int .u64 0,.int .u64 0],.int .i64 (-1)]) (by simp [results,Tryz.results18,go_sem,r0,r1,r2]) rfl ⟨rfl,?_,?_⟩
     · exact D2.out.chg hCf (fun b e e2=>hNX b (by omega) e) (fun e=>by have:=HH.out.r.v.lt;omega)
     · exact (((((Chg.refl _ w).alloc _).thenBelow HB1.out).trans C2.out)).trans' hCf (fun b hb e=>by omega)
theorem DM.findB1 (h:DM w Rb X gt tcap p0 pt s tk L0 Lc) (hb:s.bare=0) (hy:s.y hs<s.k) (hLc:0≤Lc (s.y hs)∧Lc (s.y hs)≤1000000000) (key:Int) (hh:hs<18446744073709551616) (hu:(s.U (s.y hs)).has key hs=true) :
 Calls Tryz.prog 18 #[.pointer (some ⟨Rb,0,none⟩),.int .u64 key,.int .u64 (hs:Int)] w fun e w' =>
  e = .returned (.tuple #[.agg #[.int .u64 ((s.U (s.y hs)).ent key hs).key,.int .u64 ((s.U (s.y hs)).ent key hs).val,.int .u64 ((s.U (s.y hs)).ent key hs).hash],.int .i64 0])∧DM w' Rb X gt tcap p0 pt s tk L0 (upd Lc (s.y hs) (Lc (s.y hs)+(s.U (s.y hs)).looks key hs))∧Chg (DMX Rb X p0 pt s.k) w w':=by
 have HH:=hiq h
 have RW:=hiq (fun (w':World) (h':DM w' Rb X gt tcap p0 pt s tk L0 Lc)=>h'.rowsB hb hs hh)
 have FT:=hiq (fun (w':World) (h':DM w' Rb X gt tcap p0 pt s tk L0 Lc)=>h'.findT hy hLc key hs hh)
 have HLT:=hiq h.lt
 obtain ⟨B6,hB6⟩:=exq w.heap.size
 have hB6':w.heap.size≤B6:=Nat.le_of_eq hB6.symm
 have hNX:∀b,B6≤b→¬DMX Rb X p0 pt s.k b:=fun b hb e=>by have:=HLT.out b e;omega
 obtain ⟨en,hen⟩:=exq ((s.U (s.y hs)).ent key hs)
 rw [←hen] at FT ⊢
 replace hen:=hiq hen
 obtain ⟨k0,k1,k2⟩:=en
 dsimp only at FT ⊢
 rw [hu] at FT
 generalize (pt (s.y hs)).D=td at *
 clear h hu
 go_enter Tryz.func18,Tryz.ntmps18
 go_wp2_with (go_at_call 52;(with_reducible refine (RW.out _ (HH.out.later (by go_grown))).mono ?_);rintro e w1 ⟨g,rfl,hg,hgb,hb1⟩;have D1:=hiq ((HH.out.later ((Below.refl w.heap.size w).alloc (Nat.le_refl _) (.cells #[.int .u64 0,.int .u64 0,.int .u64 0] 41))).later hb1);have R1:=hiq ((Blk.new w 41 #[.int .u64 0,.int .u64 0,.int .u64 0]).below hb1 (by simp));have G1:=hiq hgb;have hg':w.heap.size≤g:=Nat.le_trans ((Below.refl w.heap.size w).alloc (Nat.le_refl _) (.cells #[.int .u64 0,.int .u64 0,.int .u64 0] 41)).size hg;have HB1:=hiq hb1;have z1:=hb1.size)
 go_loopw [16] (fun v16 wr=>v16 = .int .i64 0∧wr=w1) (fun _ _=>0)
 case atStart=>exact ⟨rfl,rfl⟩
 case round =>
  obtain ⟨rfl,rfl⟩:=hrel
  have g0:=G1.out.cell 0
  have g1:=G1.out.cell 1
  have zg:=G1.out.lt
  go_wp2_with (go_at_call 59;(with_reducible refine (FT.out _ D1.out).mono ?_);rintro e w2 ⟨rfl,hd2,hc2⟩;have D2:=hiq hd2;have C2:=hiq hc2;have R2:=hiq (R1.out.chg hc2 (hNX _ (by omega)));have r2:=cells3 R2.out;have r20:=r2.1;have r21:=r2.2.1;have r22:=r2.2.2;have zr2:=R2.out.lt;have rf2:=fun j=>R2.out.frozen j;clear r2 hd2 hc2)
  go_wp2
  refine wp_end_at (fun Wf hWf=>?_)
  have hR':=(((R2.out.set 0 (.int .u64 k0)).set 1 (.int .u64 k1)).set 2 (.int .u64 k2))
  have hR:Blk Wf w.heap.size 41 #[.int .u64 k0,.int .u64 k1,.int .u64 k2]:=by rw [hWf];exact hR'.below ((Below.refl _ _).alloc (Nat.le_refl _) _) hR'.lt
  obtain ⟨r0,r1,r2⟩:=cells3 hR
  have hCf:Chg (fun b=>b=w.heap.size) w2 Wf:=by rw [hWf];exact ((((Chg.refl _ _).set1 _ _).set1 _ _).set1 _ _).alloc _
  clear hWf
  refine bodyPost_ret (v := .tuple #[.agg #[.int .u64 k0,.int .u64 k1,.int .u64 k2],.int .i64 0]) (by simp [results,Tryz.results18,go_sem,r0,r1,r2]) rfl ⟨rfl,?_,?_⟩
  · exact D2.out.chg hCf (fun b e e2=>hNX b (by omega) e) (fun e=>by have:=HH.out.r.v.lt;omega)
  · exact (((((Chg.refl _ w).alloc _).thenBelow HB1.out).trans C2.out)).trans' hCf (fun b hb e=>by omega)
theorem DM.findB2 (h:DM w Rb X gt tcap p0 pt s tk L0 Lc) (hb:s.bare=0) (hy:s.y hs<s.k) (hL:0≤L0∧L0≤1000000000) (hLc:0≤Lc (s.y hs)∧Lc (s.y hs)≤1000000000) (key:Int) (hh:hs<18446744073709551616) (hu:(s.U (s.y hs)).has key hs=false) (ht:s.T.has key hs=true) :
 Calls Tryz.prog 18 #[.pointer (some ⟨Rb,0,none⟩),.int .u64 key,.int .u64 (hs:Int)] w fun e w' =>
  e = .returned (.tuple #[.agg #[.int .u64 (s.T.ent key hs).key,.int .u64 (s.T.ent key hs).val,.int .u64 (s.T.ent key hs).hash],.int .i64 1])∧DM w' Rb X gt tcap p0 pt s tk (L0+s.T.looks key hs) (upd Lc (s.y hs) (Lc (s.y hs)+(s.U (s.y hs)).looks key hs))∧Chg (DMX Rb X p0 pt s.k) w w':=by
 have FO:=hiq (fun (w':World) (h':DM w' Rb X gt tcap p0 pt s tk L0 (upd Lc (s.y hs) (Lc (s.y hs)+(s.U (s.y hs)).looks key hs)))=>h'.findOld hL key hs hh)
 have HH:=hiq h
 have RW:=hiq (fun (w':World) (h':DM w' Rb X gt tcap p0 pt s tk L0 Lc)=>h'.rowsB hb hs hh)
 have FT:=hiq (fun (w':World) (h':DM w' Rb X gt tcap p0 pt s tk L0 Lc)=>h'.findT hy hLc key hs hh)
 have HLT:=hiq h.lt
 obtain ⟨B6,hB6⟩:=exq w.heap.size
 have hB6':w.heap.size≤B6:=Nat.le_of_eq hB6.symm
 have hNX:∀b,B6≤b→¬DMX Rb X p0 pt s.k b:=fun b hb e=>by have:=HLT.out b e;omega
 rw [TFun.ent_not hu] at FT
 dsimp only [EntS.zero] at FT
 obtain ⟨en,hen⟩:=exq (s.T.ent key hs)
 rw [←hen] at FO ⊢
 replace hen:=hiq hen
 obtain ⟨k0,k1,k2⟩:=en
 dsimp only at FO ⊢
 rw [hu] at FT
 rw [ht] at FO
 generalize (pt (s.y hs)).D=td at *
 generalize upd Lc (s.y hs) (Lc (s.y hs)+(s.U (s.y hs)).looks key hs)=Lc1 at *
 clear h hu ht
 go_enter Tryz.func18,Tryz.ntmps18
 go_wp2_with (go_at_call 52;(with_reducible refine (RW.out _ (HH.out.later (by go_grown))).mono ?_);rintro e w1 ⟨g,rfl,hg,hgb,hb1⟩;have D1:=hiq ((HH.out.later ((Below.refl w.heap.size w).alloc (Nat.le_refl _) (.cells #[.int .u64 0,.int .u64 0,.int .u64 0] 41))).later hb1);have R1:=hiq ((Blk.new w 41 #[.int .u64 0,.int .u64 0,.int .u64 0]).below hb1 (by simp));have G1:=hiq hgb;have hg':w.heap.size≤g:=Nat.le_trans ((Below.refl w.heap.size w).alloc (Nat.le_refl _) (.cells #[.int .u64 0,.int .u64 0,.int .u64 0] 41)).size hg;have HB1:=hiq hb1;have z1:=hb1.size)
 go_loopw [16] (fun v16 wr=>(v16 = .int .i64 0∧wr=w1)∨(v16 = .int .i64 1∧∃w2,Hid (DM w2 Rb X gt tcap p0 pt s tk L0 Lc1)∧Hid (Chg (DMX Rb X p0 pt s.k) w1 w2)∧Hid (Blk w2 w.heap.size 41 #[.int .u64 0,.int .u64 0,.int .u64 0])∧wr=w2.alloc (.cells #[.int .u64 0,.int .u64 0,.int .u64 0] 41))) (fun v16 _=>match v16 with | .int _ z=>(1-z).toNat|_=>0)
 case atStart=>exact .inl ⟨rfl,rfl⟩
 case round =>
  rcases hrel with ⟨rfl,rfl⟩ | ⟨rfl,w2,D2,C2,R2,rfl⟩
  · skip
    have g0:=G1.out.cell 0
    have g1:=G1.out.cell 1
    have zg:=G1.out.lt
    go_wp2_with (go_at_call 59;(with_reducible refine (FT.out _ D1.out).mono ?_);rintro e w2 ⟨rfl,hd2,hc2⟩;have D2:=hiq hd2;have C2:=hiq hc2;have R2:=hiq (R1.out.chg hc2 (hNX _ (by omega)));clear hd2 hc2)
    exact ⟨.inr ⟨rfl,w2,D2,C2,R2,rfl⟩,by decide⟩
  · skip
    have GA:=(G1.out.chg C2.out (hNX _ (by omega))).below ((Below.refl _ _).alloc (Nat.le_refl _) (.cells #[.int .u64 0,.int .u64 0,.int .u64 0] 41)) (by have:=C2.out.size;have:=G1.out.lt;omega)
    have g0:=GA.cell 0
    have g1:=GA.cell 1
    have zg:=GA.lt
    have z2:=C2.out.size
    have DA:=hiq (D2.out.later ((Below.refl w2.heap.size w2).alloc (Nat.le_refl _) (.cells #[.int .u64 0,.int .u64 0,.int .u64 0] 41)))
    have RA:=hiq (R2.out.below ((Below.refl w2.heap.size w2).alloc (Nat.le_refl _) (.cells #[.int .u64 0,.int .u64 0,.int .u64 0] 41)) R2.out.lt)
    have CA:=hiq (C2.out.alloc (.cells #[.int .u64 0,.int .u64 0,.int .u64 0] 41))
    go_wp2_with (go_at_call 59;(with_reducible refine (FO.out _ DA.out).mono ?_);rintro e w3 ⟨rfl,hd2,hc2⟩;have D3:=hiq hd2;have C3:=hiq (CA.out.trans hc2);have R3:=hiq (RA.out.chg hc2 (hNX _ (by omega)));have r2:=cells3 R3.out;have r20:=r2.1;have r21:=r2.2.1;have r22:=r2.2.2;have zr2:=R3.out.lt;have rf2:=fun j=>R3.out.frozen j;clear r2 hd2 hc2)
    go_wp2
    refine wp_end_at (fun Wf hWf=>?_)
    have hR':=(((R3.out.set 0 (.int .u64 k0)).set 1 (.int .u64 k1)).set 2 (.int .u64 k2))
    have hR:Blk Wf w.heap.size 41 #[.int .u64 k0,.int .u64 k1,.int .u64 k2]:=by rw [hWf];exact hR'.below ((Below.refl _ _).alloc (Nat.le_refl _) _) hR'.lt
    obtain ⟨r0,r1,r2⟩:=cells3 hR
    have hCf:Chg (fun b=>b=w.heap.size) w3 Wf:=by rw [hWf];exact ((((Chg.refl _ _).set1 _ _).set1 _ _).set1 _ _).alloc _
    clear hWf
    refine bodyPost_ret (v := .tuple #[.agg #[.int .u64 k0,.int .u64 k1,.int .u64 k2],.int .i64 1]) (by simp [results,Tryz.results18,go_sem,r0,r1,r2]) rfl ⟨rfl,?_,?_⟩
    · exact D3.out.chg hCf (fun b e e2=>hNX b (by omega) e) (fun e=>by have:=HH.out.r.v.lt;omega)
    · exact (((((Chg.refl _ w).alloc _).thenBelow HB1.out).trans C3.out)).trans' hCf (fun b hb e=>by omega)
theorem DM.findB3 (h:DM w Rb X gt tcap p0 pt s tk L0 Lc) (hb:s.bare=0) (hy:s.y hs<s.k) (hL:0≤L0∧L0≤1000000000) (hLc:0≤Lc (s.y hs)∧Lc (s.y hs)≤1000000000) (key:Int) (hh:hs<18446744073709551616) (hu:(s.U (s.y hs)).has key hs=false) (ht:s.T.has key hs=false) :
 Calls Tryz.prog 18 #[.pointer (some ⟨Rb,0,none⟩),.int .u64 key,.int .u64 (hs:Int)] w fun e w' =>
  e = .returned (.tuple #[.agg #[.int .u64 0,.int .u64 0,.int .u64 0],.int .i64 (-1)])∧DM w' Rb X gt tcap p0 pt s tk (L0+s.T.looks key hs) (upd Lc (s.y hs) (Lc (s.y hs)+(s.U (s.y hs)).looks key hs))∧Chg (DMX Rb X p0 pt s.k) w w':=by
 have FO:=hiq (fun (w':World) (h':DM w' Rb X gt tcap p0 pt s tk L0 (upd Lc (s.y hs) (Lc (s.y hs)+(s.U (s.y hs)).looks key hs)))=>h'.findOld hL key hs hh)
 have HH:=hiq h
 have RW:=hiq (fun (w':World) (h':DM w' Rb X gt tcap p0 pt s tk L0 Lc)=>h'.rowsB hb hs hh)
 have FT:=hiq (fun (w':World) (h':DM w' Rb X gt tcap p0 pt s tk L0 Lc)=>h'.findT hy hLc key hs hh)
 have HLT:=hiq h.lt
 obtain ⟨B6,hB6⟩:=exq w.heap.size
 have hB6':w.heap.size≤B6:=Nat.le_of_eq hB6.symm
 have hNX:∀b,B6≤b→¬DMX Rb X p0 pt s.k b:=fun b hb e=>by have:=HLT.out b e;omega
 rw [TFun.ent_not hu] at FT
 dsimp only [EntS.zero] at FT
 rw [TFun.ent_not ht] at FO
 dsimp only [EntS.zero] at FO
 rw [hu] at FT
 rw [ht] at FO
 generalize (pt (s.y hs)).D=td at *
 generalize upd Lc (s.y hs) (Lc (s.y hs)+(s.U (s.y hs)).looks key hs)=Lc1 at *
 clear h hu ht
 go_enter Tryz.func18,Tryz.ntmps18
 go_wp2_with (go_at_call 52;(with_reducible refine (RW.out _ (HH.out.later (by go_grown))).mono ?_);rintro e w1 ⟨g,rfl,hg,hgb,hb1⟩;have D1:=hiq ((HH.out.later ((Below.refl w.heap.size w).alloc (Nat.le_refl _) (.cells #[.int .u64 0,.int .u64 0,.int .u64 0] 41))).later hb1);have R1:=hiq ((Blk.new w 41 #[.int .u64 0,.int .u64 0,.int .u64 0]).below hb1 (by simp));have G1:=hiq hgb;have hg':w.heap.size≤g:=Nat.le_trans ((Below.refl w.heap.size w).alloc (Nat.le_refl _) (.cells #[.int .u64 0,.int .u64 0,.int .u64 0] 41)).size hg;have HB1:=hiq hb1;have z1:=hb1.size)
 go_loopw [16] (fun v16 wr=>(v16 = .int .i64 0∧wr=w1)∨(v16 = .int .i64 1∧∃w2,Hid (DM w2 Rb X gt tcap p0 pt s tk L0 Lc1)∧Hid (Chg (DMX Rb X p0 pt s.k) w1 w2)∧Hid (Blk w2 w.heap.size 41 #[.int .u64 0,.int .u64 0,.int .u64 0])∧wr=w2.alloc (.cells #[.int .u64 0,.int .u64 0,.int .u64 0] 41))∨(v16 = .int .i64 2∧∃w2,Hid (DM w2 Rb X gt tcap p0 pt s tk (L0+s.T.looks key hs) Lc1)∧Hid (Chg (DMX Rb X p0 pt s.k) w1 w2)∧Hid (Blk w2 w.heap.size 41 #[.int .u64 0,.int .u64 0,.int .u64 0])∧wr=w2.alloc (.cells #[.int .u64 0,.int .u64 0,.int .u64 0] 41))) (fun v16 _=>match v16 with | .int _ z=>(2-z).toNat|_=>0)
 case atStart=>exact .inl ⟨rfl,rfl⟩
 case round =>
  rcases hrel with ⟨rfl,rfl⟩ | ⟨rfl,w2,D2,C2,R2,rfl⟩ | ⟨rfl,w2,D2,C2,R2,rfl⟩
  · skip
    have g0:=G1.out.cell 0
    have g1:=G1.out.cell 1
    have zg:=G1.out.lt
    go_wp2_with (go_at_call 59;(with_reducible refine (FT.out _ D1.out).mono ?_);rintro e w2 ⟨rfl,hd2,hc2⟩;have D2:=hiq hd2;have C2:=hiq hc2;have R2:=hiq (R1.out.chg hc2 (hNX _ (by omega)));clear hd2 hc2)
    exact ⟨.inr (.inl ⟨rfl,w2,D2,C2,R2,rfl⟩),by decide⟩
  · skip
    have GA:=(G1.out.chg C2.out (hNX _ (by omega))).below ((Below.refl _ _).alloc (Nat.le_refl _) (.cells #[.int .u64 0,.int .u64 0,.int .u64 0] 41)) (by have:=C2.out.size;have:=G1.out.lt;omega)
    have g0:=GA.cell 0
    have g1:=GA.cell 1
    have zg:=GA.lt
    have z2:=C2.out.size
    have DA:=hiq (D2.out.later ((Below.refl w2.heap.size w2).alloc (Nat.le_refl _) (.cells #[.int .u64 0,.int .u64 0,.int .u64 0] 41)))
    have RA:=hiq (R2.out.below ((Below.refl w2.heap.size w2).alloc (Nat.le_refl _) (.cells #[.int .u64 0,.int .u64 0,.int .u64 0] 41)) R2.out.lt)
    have CA:=hiq (C2.out.alloc (.cells #[.int .u64 0,.int .u64 0,.int .u64 0] 41))
    go_wp2_with (go_at_call 59;(with_reducible refine (FO.out _ DA.out).mono ?_);rintro e w3 ⟨rfl,hd2,hc2⟩;have D3:=hiq hd2;have C3:=hiq (CA.out.trans hc2);have R3:=hiq (RA.out.chg hc2 (hNX _ (by omega)));clear hd2 hc2)
    exact ⟨.inr (.inr ⟨rfl,w3,D3,C3,R3,rfl⟩),by decide⟩
  · have r2:=cells3 R2.out
    have r20:=r2.1
    have r21:=r2.2.1
    have r22:=r2.2.2
    have zr2:=R2.out.lt
    have rf2:=fun j=>R2.out.frozen j
    clear r2
    go_wp2
    refine wp_end_at (fun Wf hWf=>?_)
    have hR':=(((R2.out.set 0 (.int .u64 0)).set 1 (.int .u64 0)).set 2 (.int .u64 0))
    have hR:Blk Wf w.heap.size 41 #[.int .u64 0,.int .u64 0,.int .u64 0]:=by rw [hWf];exact hR'.below ((Below.refl _ _).alloc (Nat.le_refl _) _) hR'.lt
    obtain ⟨r0,r1,r2⟩:=cells3 hR
    have hCf:Chg (fun b=>b=w.heap.size) w2 Wf:=by rw [hWf];exact ((((Chg.refl _ _).set1 _ _).set1 _ _).set1 _ _).alloc _
    clear hWf
    refine bodyPost_ret (v := .tuple #[.agg #[.int .u64 0,.int .u64 0,.int .u64 0],.int .i64 (-1)]) (by simp [results,Tryz.results18,go_sem,r0,r1,r2]) rfl ⟨rfl,?_,?_⟩
    · exact D2.out.chg hCf (fun b e e2=>hNX b (by omega) e) (fun e=>by have:=HH.out.r.v.lt;omega)
    · exact (((((Chg.refl _ w).alloc _).thenBelow HB1.out).trans C2.out)).trans' hCf (fun b hb e=>by omega)
theorem DM.find (h:DM w Rb X gt tcap p0 pt s tk L0 Lc) (hk:s.y hs<s.k) (hL:0≤L0∧L0≤1000000000) (hLc:0≤Lc (s.y hs)∧Lc (s.y hs)≤1000000000) (key:Int) (hh:hs<18446744073709551616) :
 Calls Tryz.prog 18 #[.pointer (some ⟨Rb,0,none⟩),.int .u64 key,.int .u64 (hs:Int)] w fun e w' =>
  e = .returned (.tuple #[.agg #[.int .u64 (s.ent key hs).key,.int .u64 (s.ent key hs).val,.int .u64 (s.ent key hs).hash],.int .i64 (s.atI key hs)])∧DM w' Rb X gt tcap p0 pt s tk (L0+s.lkT key hs) (upd Lc (s.y hs) (Lc (s.y hs)+s.lkU key hs))∧Chg (DMX Rb X p0 pt s.k) w w':=by
 unfold DuS.ent DuS.atI DuS.lkT DuS.lkU
 by_cases hb:s.bare=0
 · cases hu:(s.U (s.y hs)).has key hs with
   | true =>
    have hi:s.inU key hs=true:=by unfold DuS.inU;rw [decide_eq_true hb,hu];rfl
    rw [if_pos hi,if_pos hi,if_pos hi,if_pos hb]
    simpa using h.findB1 hb hk hLc key hh hu
   | false =>
    have hi:¬s.inU key hs=true:=by unfold DuS.inU;rw [hu];simp
    rw [if_neg hi,if_neg hi,if_neg hi,if_pos hb]
    cases ht:s.T.has key hs with
    | true =>
     rw [if_pos rfl,if_pos hb]
     exact h.findB2 hb hk hL hLc key hh hu ht
    | false =>
     rw [if_neg (by simp),TFun.ent_not ht,if_pos hb]
     exact h.findB3 hb hk hL hLc key hh hu ht
 · have hi:¬s.inU key hs=true:=by unfold DuS.inU;rw [decide_eq_false hb];simp
   rw [if_neg hi,if_neg hi,if_neg hi,if_neg hb]
   have:=h.findA (by omega) hL key hs hh
   simpa [hb,upd_self] using this
end
theorem infoLk:(Tryz.prog.info? 3).map (fun i=>(i.zero,i.size,i.bytes))=some (some (.int .i64 0),1,8):=by kernel_rfl
def lkv (L0:Int) (Lc:Nat→Int):Nat→Int
 | 0=>L0
 | i+1=>Lc i
def lkl (L0:Int) (Lc:Nat→Int) (n:Nat):List Value:=(List.range n).map (fun i=>Value.int .i64 (lkv L0 Lc i))
theorem lkl_snoc (L0:Int) (Lc:Nat→Int) (i:Nat):lkl L0 Lc (i+1) ++ [.int .i64 (Lc i)]=lkl L0 Lc (i+1+1):=by
 unfold lkl;rw [List.range_succ (n:=i+1),List.map_append];rfl
theorem ownsRow_one {w:World} {g:Nat} {e:TypeId} {x:Value} (h:Blk w g e #[x]):w.ownsRow g e 1 (.slice (some ⟨g,0,none⟩) 1 1) 1 [x] :=
 ⟨by simp,.inr ⟨g,1,#[x],rfl,Nat.le_refl _,h,by simp,by decide,rfl,by simp⟩⟩
theorem cell1_lk {w:World} {g:Nat} {T:TypeId} {x:Value} (h:Blk w g T #[x]):∀j u,[x][j]?=some u→w.cell? ((⟨g,0,none⟩:Addr).add j)=some u:=by
 intro j u hj
 match j,hj with
 | 0,hj=>simp only [List.getElem?_cons_zero,Option.some.injEq] at hj;subst hj;rw [add_at];exact h.cell 0
 | j+1,hj=>simp at hj
theorem ownsRow_cell {w:World} {base g cap n:Nat} {e:TypeId} {xs:List Value} (h:w.ownsRow base e 1 (.slice (some ⟨g,0,none⟩) n cap) n xs) (i:Nat) (hi:i<n):w.cell? ⟨g,i,none⟩=xs[i]?:=by
 rcases h.2 with ⟨h',-⟩ | ⟨g',cap',cur,hv,hb,hg,h1,h2,h3,h4⟩
 · cases h'
 · cases hv
   rw [←h4,(show Blk w g e cur from hg).cell i,List.getElem?_take_of_lt (by omega),Array.getElem?_toList]
section
variable {w w':World} {Rb X gt tcap:Nat} {p0:PB} {pt:Nat→PB} {s:DuS} {tk:Bool} {L0:Int} {Lc:Nat→Int} {hs:Nat}
theorem DM.looks (h:DM w Rb X gt tcap p0 pt s tk L0 Lc):Calls Tryz.prog 51 #[.pointer (some ⟨Rb,0,none⟩)] w fun e w' =>
 ∃g cap,e = .returned (.slice (some ⟨g,0,none⟩) (s.k+1) cap)∧w'.ownsRow w.heap.size 3 1 (.slice (some ⟨g,0,none⟩) (s.k+1) cap) (s.k+1) (lkl L0 Lc (s.k+1))∧Below w.heap.size w w':=by
 obtain ⟨i0,hi,hz0,hz1,hz2⟩:=info_parts infoLk
 have hk2:s.k≤2:=by rcases h.r.v.hk with e|e <;> omega
 have HH:=hiq h
 have r0:=h.hd.cell 0
 obtain ⟨c0,c1,c2,c3,zX,fX⟩:=vmcells h.r.v
 have d1:=h.r.o.cells.1
 have zD:=h.r.o.lt
 have zR:=h.hd.lt
 clear h c2
 go_enter Tryz.func51,Tryz.ntmps51
 go_wp2
 go_loopw [3,25] (fun v3 v25 wr => ∃i:Nat,i≤s.k∧v25 = .int .i64 (i:Int)∧wr.ownsRow w.heap.size 3 1 v3 (i+1) (lkl L0 Lc (i+1))∧Below w.heap.size w wr) (fun _ v25 _=>s.k-(intOf v25).toNat)
 case atStart=>exact ⟨0,Nat.zero_le _,rfl,ownsRow_one (Blk.new _ _ _),(Below.refl _ _).alloc (Nat.le_refl _) _⟩
 case round =>
  obtain ⟨i,hi',rfl,hrow,hB⟩:=hrel
  have HROW:=hiq hrow
  have HB:=hiq hB
  have hzB:=hB.size
  by_cases hlt:i<s.k
  · have HA:=hiq (HH.out.later hB)
    have l0:=HA.out.r.v.l i hlt
    have zG:=HA.out.r.v.lt
    have e1:=(HA.out.r.t i hlt).cells.1
    have zT:=(HA.out.r.t i hlt).lt
    clear hrow hB
    go_wp2_with (at_builtin;(refine wpList_append_own2' rfl _ _ 23 rfl w.heap.size 3 i0 (.int .i64 0) 1 8 Tryz.underlying23 hi hz0 hz1 hz2 rfl (by decide) _ _ _ rfl (ownsRow_later HROW.out ((Below.refl _ _).alloc (Nat.le_refl _) _)) ⟨wr.heap.size,0,none⟩ 1 1 [.int .i64 (Lc i)] rfl rfl (cell1_lk (Blk.new _ _ _)) (by simp [Value.oneCell']) (by unfold maxLen;omega) (by omega) (by simp;omega) (by decide) ?_;intro v5 w5 hown5 hgrow5 hfr5;have R5:=hiq hown5;have B5:=hiq ((HB.out.alloc hzB (.cells #[.int .i64 (Lc i)] 3)).grown hgrow5 (by simp;omega) (fun k e=>(HROW.out.lt k e).1));clear hown5 hgrow5 hfr5))
    exact ⟨⟨i+1,by omega,by simp,by rw [←lkl_snoc];exact R5.out,B5.out⟩,by simp [intOf];omega⟩
  · obtain rfl:i=s.k:=by omega
    clear hrow hB
    go_wp2
    go_ret
    obtain ⟨g,cap,rfl⟩:=ownsRow_succ HROW.out
    exact ⟨g,cap,rfl,HROW.out,HB.out⟩
theorem DM.congrL {Lc':Nat→Int} (h:DM w Rb X gt tcap p0 pt s tk L0 Lc) (e:∀i,i<s.k→Lc i=Lc' i):DM w Rb X gt tcap p0 pt s tk L0 Lc' :=
 ⟨h.hd,⟨h.r.v,h.r.o,fun j hj=>by rw [←e j hj];exact h.r.t j hj,h.r.s0,h.r.s1,h.r.x⟩,h.ne⟩
theorem DM.lookOld (h:DM w Rb X gt tcap p0 pt s tk L0 Lc) (L2:Int):DM (w.setCell ⟨p0.D,1,none⟩ (.int .i64 L2)) Rb X gt tcap p0 pt s tk L2 Lc∧Chg (DMX Rb X p0 pt s.k) w (w.setCell ⟨p0.D,1,none⟩ (.int .i64 L2)):=by
 have hid:=h.r.o.id
 exact h.oldTurn (h.r.o.looks L2) (((Chg.refl (fun b=>b=p0.D) w).set1 1 (.int .i64 L2)).mono (fun b _ e=>by rw [e];exact hid))
theorem DM.lookT {i:Nat} (hi:i<s.k) (h:DM w Rb X gt tcap p0 pt s tk L0 Lc) (L2:Int):DM (w.setCell ⟨(pt i).D,1,none⟩ (.int .i64 L2)) Rb X gt tcap p0 pt s tk L0 (upd Lc i L2)∧Chg (DMX Rb X p0 pt s.k) w (w.setCell ⟨(pt i).D,1,none⟩ (.int .i64 L2)):=by
 have hid:=(h.r.t i hi).id
 obtain ⟨h1,h2⟩:=h.tgtTurn hi ((h.r.t i hi).looks L2) (((Chg.refl (fun b=>b=(pt i).D) w).set1 1 (.int .i64 L2)).mono (fun b _ e=>by rw [e];exact hid))
 rw [setU_self] at h1
 exact ⟨h1,h2⟩
theorem DM.again {L0':Int} {Lc':Nat→Int} {g cap base:Nat} (h:DM w Rb X gt tcap p0 pt s tk L0' Lc') (hrow:w.ownsRow base 3 1 (.slice (some ⟨g,0,none⟩) (s.k+1) cap) (s.k+1) (lkl L0 Lc (s.k+1))) (hg:¬DMX Rb X p0 pt s.k g):Calls Tryz.prog 53 #[.pointer (some ⟨Rb,0,none⟩),.slice (some ⟨g,0,none⟩) (s.k+1) cap] w fun e w' =>
 e = .returned (.tuple #[])∧DM w' Rb X gt tcap p0 pt s tk L0 Lc∧Chg (DMX Rb X p0 pt s.k) w w':=by
 have hk2:s.k≤2:=by rcases h.r.v.hk with e|e <;> omega
 have hgz:g<w.heap.size:=(hrow.lt g rfl).2
 have gc:∀i,i<s.k+1→w.cell? ⟨g,i,none⟩=some (.int .i64 (lkv L0 Lc i)):=fun i hi=>by
  rw [ownsRow_cell hrow i hi];unfold lkl;simp [hi]
 have HH:=hiq h
 have g0:=gc 0 (by omega)
 rw [show lkv L0 Lc 0=L0 from rfl] at g0
 have GC:=hiq gc
 obtain ⟨hd,hc⟩:=h.lookOld L0
 have HD:=hiq hd
 have HC:=hiq hc
 have r0:=h.hd.cell 0
 obtain ⟨c0,c1,c2,c3,zX,fX⟩:=vmcells h.r.v
 have zD:=h.r.o.lt
 have rD:=h.r.o.cells.2
 have d1:=h.r.o.cells.1
 have r0':=hd.hd.cell 0
 obtain ⟨c0',c1',-,-,-,-⟩:=vmcells hd.r.v
 have zR:=h.hd.lt
 clear h c2 hrow gc hd hc fX c3
 go_enter Tryz.func53,Tryz.ntmps53
 go_wp2
 refine wp_region_seq (fun _=>False) #[⟨0,0,64,1,0⟩,⟨1,1,128,64,0⟩,⟨2,3,256,128,0⟩,⟨4,7,512,256,1⟩,⟨8,15,1024,512,0⟩,⟨16,31,2048,1024,0⟩,⟨32,63,4096,2048,1⟩,⟨0,0,8192,2,0⟩,⟨128,128,16384,8192,0⟩,⟨256,384,32768,16384,1⟩,⟨1023,1023,65536,4096,0⟩,⟨2047,2047,131072,65536,0⟩,⟨3071,4095,0,163840,3⟩] 584 [(0,0),(1,0),(2,0),(3,1),(4,0),(5,0),(6,1),(7,0),(8,0),(9,1),(10,0),(11,0),(12,3)] (by kernel_rfl) (by kernel_rfl) (by kernel_rfl) (by kernel_rfl) (by kernel_rfl) (by kernel_rfl) (fun c a d v w h=>by cases d <;> exact h) ?_
 refine zqC ?_;refine zqC ?_;refine zqC ?_
 refine zq1 Tryz.underlying43 ?_
 try refine zqP ?_;refine zqC ?_;refine zqC ?_
 refine zq1 Tryz.underlying70 ?_
 try refine zqP ?_;refine zqC ?_;refine zqC ?_
 refine zq1 Tryz.underlying3 ?_
 try refine zqP ?_;refine zqC ?_;refine zqC ?_
 refine zqE fun K hK=>?_;go_wp2_with (fail);refine hK.out _ _ ?_;clear hK K
 try refine zqP ?_
 refine seq_nil ?_
 go_wp2
 go_loopw [26] (fun v26 wr => ∃ (i:Nat) (Ly:Nat→Int),i≤s.k∧v26 = .int .i64 (i:Int)∧DM wr Rb X gt tcap p0 pt s tk L0 Ly∧Chg (DMX Rb X p0 pt s.k) w wr∧∀j,j<i→Ly j=Lc j) (fun v26 _=>s.k-(intOf v26).toNat)
 case atStart=>exact ⟨0,Lc',Nat.zero_le _,rfl,HD.out.later (Below.refl _ _).drew,HC.out.thenBelow (Below.refl _ _).drew,fun j hj=>by omega⟩
 case round =>
  obtain ⟨i,Ly,hi',rfl,hd,hc,hy⟩:=hrel
  have HDr:=hiq hd
  have HCr:=hiq hc
  have HY:=hiq hy
  by_cases hlt:i<s.k
  · have l0:=hd.r.v.l i hlt
    have zG:=hd.r.v.lt
    have e1:=(hd.r.t i hlt).cells.2
    have e0:=(hd.r.t i hlt).cells.1
    have zT:=(hd.r.t i hlt).lt
    have gi:=(hc.cell (p:=⟨g,i+1,none⟩) hgz hg).trans (GC.out (i+1) (by omega))
    rw [show lkv L0 Lc (i+1)=Lc i from rfl] at gi
    have gz:=Nat.lt_of_lt_of_le hgz hc.size
    have hI:((i:Int)+1)<((s.k+1:Nat):Int):=by omega
    clear hd hc hy
    go_wp2
    obtain ⟨h1,h2⟩:=HDr.out.lookT hlt (Lc i)
    exact ⟨⟨i+1,upd Ly i (Lc i),by omega,by simp,h1,HCr.out.trans h2,fun j hj=>by
     by_cases e:j=i
     · subst e;rw [upd_same]
     · rw [upd_other _ _ e];exact HY.out j (by omega)⟩,by simp [intOf];omega⟩
  · obtain rfl:i=s.k:=by omega
    clear hd hc hy
    go_wp2
    go_end0
    exact ⟨rfl,HDr.out.congrL HY.out,HCr.out⟩
end
def RowAt (s:DuS) (p0:PB) (pt:Nat→PB) (hs idx td:Nat):Prop:=(idx=0∧td=if s.bare=0 then (pt (s.y hs)).D else p0.D)∨(idx=1∧s.bare=0∧td=p0.D)
section
variable {w w':World} {Rb X gt tcap:Nat} {p0:PB} {pt:Nat→PB} {s:DuS} {tk:Bool} {L0:Int} {Lc:Nat→Int} {hs:Nat}
theorem DM.rowAt {idx td:Nat} (hr:RowAt s p0 pt hs idx td) (h:DM w Rb X gt tcap p0 pt s tk L0 Lc) (hh:hs<18446744073709551616):Calls Tryz.prog 52 #[.pointer (some ⟨Rb,0,none⟩),.int .u64 (hs:Int)] w fun e w' =>
 ∃g n,e = .returned (.slice (some ⟨g,0,none⟩) n n)∧(idx:Int)<(n:Int)∧w.heap.size≤g∧g<w'.heap.size∧w'.cell? ⟨g,idx,none⟩=some (.pointer (some ⟨td,0,none⟩))∧Below w.heap.size w w':=by
 by_cases hb:s.bare=0
 · refine (h.rowsB hb hs hh).mono ?_
   rintro e w' ⟨g,rfl,h1,h2,h3⟩
   rcases hr with ⟨rfl,rfl⟩ | ⟨rfl,-,rfl⟩
   · rw [if_pos hb];exact ⟨g,2,rfl,by omega,h1,h2.lt,h2.cell 0,h3⟩
   · exact ⟨g,2,rfl,by omega,h1,h2.lt,h2.cell 1,h3⟩
 · refine (h.rowsA (by omega) hs).mono ?_
   rintro e w' ⟨g,rfl,h1,h2,h3⟩
   rcases hr with ⟨rfl,rfl⟩ | ⟨rfl,e,rfl⟩
   · rw [if_neg hb];exact ⟨g,1,rfl,by omega,h1,h2.lt,h2.cell 0,h3⟩
   · exact absurd e hb
theorem atI_row (s:DuS) (p0:PB) (pt:Nat→PB) (key:Int) (hs:Nat):(s.has key hs=false∧s.atI key hs = -1)∨(s.has key hs=true∧∃idx:Nat,s.atI key hs=(idx:Int)∧RowAt s p0 pt hs idx (if s.inU key hs=true then (pt (s.y hs)).D else p0.D)):=by
 unfold DuS.atI DuS.has RowAt
 cases hi:s.inU key hs with
 | true =>
  have hb:=(DuOK.inU0 hi).1
  exact .inr ⟨rfl,0,by simp,.inl ⟨rfl,by simp [hb]⟩⟩
 | false =>
  cases ht:s.T.has key hs with
  | false=>exact .inl ⟨rfl,by simp⟩
  | true =>
   by_cases hb:s.bare=0
   · exact .inr ⟨rfl,1,by simp [hb],.inr ⟨rfl,hb,by simp⟩⟩
   · exact .inr ⟨rfl,0,by simp [hb],.inl ⟨rfl,by simp [hb]⟩⟩
theorem DM.delRow (h:DM w Rb X gt tcap p0 pt s tk L0 Lc) (hk:s.y hs<s.k) (hL:0≤L0∧L0≤1000000000) (hLc:0≤Lc (s.y hs)∧Lc (s.y hs)≤1000000000) (key:Int) (hh:hs<18446744073709551616) :
 Calls Tryz.prog 58 #[.pointer (some ⟨if s.inU key hs=true then (pt (s.y hs)).D else p0.D,0,none⟩),.int .u64 key,.int .u64 (hs:Int)] w fun e w' =>
  ∃v,e = .returned v∧∃L' Lc',DM w' Rb X gt tcap p0 pt (s.del key hs) tk L' Lc'∧Chg (DMX Rb X p0 pt s.k) w w':=by
 unfold DuS.del
 split
 · refine ((h.r.t _ hk).del hLc key hs hh).mono ?_
   rintro e w' ⟨rfl,h1,h2⟩
   obtain ⟨h3,h4⟩:=h.tgtTurn hk h1 h2
   exact ⟨_,rfl,_,_,h3,h4⟩
 · refine (h.r.o.del hL key hs hh).mono ?_
   rintro e w' ⟨rfl,h1,h2⟩
   obtain ⟨h3,h4⟩:=h.oldTurn h1 h2
   exact ⟨_,rfl,_,_,h3,h4⟩
theorem del_self {s:DuS} {key:Int} {hs:Nat} (h:s.has key hs=false):s.del key hs=s:=by
 unfold DuS.has at h
 rw [Bool.or_eq_false_iff] at h
 unfold DuS.del TabS.delT
 rw [h.1,h.2];rfl
theorem del_k (s:DuS) (key:Int) (hs:Nat):(s.del key hs).k=s.k:=by unfold DuS.del;split <;> rfl
theorem DM.del (h:DM w Rb X gt tcap p0 pt s tk L0 Lc) (hk:s.y hs<s.k) (hL:0≤L0∧L0≤100000000) (hLc:0≤Lc (s.y hs)∧Lc (s.y hs)≤100000000) (key:Int) (hh:hs<18446744073709551616) :
 Calls Tryz.prog 16 #[.pointer (some ⟨Rb,0,none⟩),.int .u64 key,.int .u64 (hs:Int)] w fun e w' =>
  e = .returned (.tuple #[.agg #[.int .u64 (s.ent key hs).key,.int .u64 (s.ent key hs).val,.int .u64 (s.ent key hs).hash],.bool (s.has key hs)])∧DM w' Rb X gt tcap p0 pt (s.del key hs) tk (L0+s.lkT key hs) (upd Lc (s.y hs) (Lc (s.y hs)+s.lkU key hs))∧Chg (DMX Rb X p0 pt s.k) w w':=by
 have hb1:0≤L0+(s.lkT key hs:Nat)∧L0+(s.lkT key hs:Nat)≤1000000000:=by
  have:=looks_le_n h.r.o.good key hs
  have:=h.r.o.good.bounds
  unfold DuS.lkT;split <;> omega
 have hb2:0≤upd Lc (s.y hs) (Lc (s.y hs)+(s.lkU key hs:Nat)) (s.y hs)∧upd Lc (s.y hs) (Lc (s.y hs)+(s.lkU key hs:Nat)) (s.y hs)≤1000000000:=by
  rw [upd_same]
  have:=looks_le_n (h.r.t _ hk).good key hs
  have:=(h.r.t _ hk).good.bounds
  unfold DuS.lkU;split <;> omega
 replace hL:0≤L0∧L0≤1000000000:=⟨hL.1,by omega⟩
 replace hLc:0≤Lc (s.y hs)∧Lc (s.y hs)≤1000000000:=⟨hLc.1,by omega⟩
 have HH:=hiq h
 have FI:=hiq (fun (w':World) (h':DM w' Rb X gt tcap p0 pt s tk L0 Lc)=>h'.find hk hL hLc key hh)
 have HLT:=hiq h.lt
 obtain ⟨B6,hB6⟩:=exq w.heap.size
 have hB6':w.heap.size≤B6:=Nat.le_of_eq hB6.symm
 have hNX:∀b,B6≤b→¬DMX Rb X p0 pt s.k b:=fun b hb e=>by have:=HLT.out b e;omega
 obtain ⟨en,hen⟩:=exq (s.ent key hs)
 rw [←hen] at FI ⊢
 clear hen
 obtain ⟨k0,k1,k2⟩:=en
 dsimp only at FI ⊢
 rcases atI_row s p0 pt key hs with ⟨hhas,hat⟩ | ⟨hhas,idx,hat,hrow⟩
 · rw [del_self hhas,hhas]
   rw [hat] at FI
   generalize L0+(s.lkT key hs:Nat)=L1 at *
   generalize upd Lc (s.y hs) (Lc (s.y hs)+(s.lkU key hs:Nat))=Lc1 at *
   have LK:=hiq (fun (w':World) (h':DM w' Rb X gt tcap p0 pt s tk L1 Lc1)=>h'.looks)
   clear h
   go_enter Tryz.func16,Tryz.ntmps16
   go_wp2_with (first|(go_at_call 18;(with_reducible refine (FI.out _ (HH.out.later (by go_grown))).mono ?_);rintro e w1 ⟨rfl,hd1,hc1⟩;have D1:=hiq hd1;have C1:=hiq hc1;have R6:=hiq ((Blk.new w 41 #[.int .u64 0,.int .u64 0,.int .u64 0]).chg hc1 (hNX _ (by omega)));have z1:w.heap.size+1≤w1.heap.size:=(by simpa using hc1.size);clear hd1 hc1)|(go_at_call 51;((with_reducible refine (LK.out _ (D1.out.later (by go_grown))).mono ?_);rintro e w2 ⟨g,cap,rfl,hrow2,hb2⟩;have B1:Below w1.heap.size w1 (w1.alloc (.cells #[.int .u64 k0,.int .u64 k1,.int .u64 k2] 41)):=(Below.refl _ _).alloc (Nat.le_refl _) _;have D2:=hiq ((D1.out.later B1).later hb2);have C2:=hiq ((C1.out.thenBelow B1).thenBelow hb2);have R62:=hiq ((R6.out.below B1 R6.out.lt).below hb2 (by have:=R6.out.lt;have:=B1.size;omega));have R82:=hiq ((Blk.new w1 41 #[.int .u64 k0,.int .u64 k1,.int .u64 k2]).below hb2 (by simp));have ROW:=hiq hrow2;have hgB:B6≤g:=(by have:=(hrow2.lt g rfl).1;have:=B1.size;omega);have hgz:=(hrow2.lt g rfl).2;have hgx:=hNX g hgB;clear hrow2 hb2 B1))|(go_at_call 53;(with_reducible refine (DM.again D2.out ROW.out hgx).mono ?_);rintro e w5 ⟨rfl,hd5,hc5⟩;have D5:=hiq hd5;have C5:=hiq (C2.out.trans hc5);have R65:=hiq (R62.out.chg hc5 (hNX _ (by omega)));have R85:=hiq (R82.out.chg hc5 (hNX _ (by omega)));have r6:=cells3 R65.out;have r60:=r6.1;have r61:=r6.2.1;have r62:=r6.2.2;have r8:=cells3 R85.out;have r80:=r8.1;have r81:=r8.2.1;have r82:=r8.2.2;have zr6:=R65.out.lt;have zr8:=R85.out.lt;have rf6:=fun j=>R65.out.frozen j;clear r6 r8 hd5 hc5))
   refine wp_end_at (fun Wf hWf=>?_)
   have hR:Blk Wf w.heap.size 41 #[.int .u64 k0,.int .u64 k1,.int .u64 k2]:=by rw [hWf];exact (((R65.out.set 0 _).set 1 _).set 2 _)
   obtain ⟨r0,r1,r2⟩:=cells3 hR
   have hCf:Chg (fun b=>b=w.heap.size) w5 Wf:=by rw [hWf];exact ((((Chg.refl _ _).set1 _ _).set1 _ _).set1 _ _)
   clear hWf
   refine bodyPost_ret (v := .tuple #[.agg #[.int .u64 k0,.int .u64 k1,.int .u64 k2],.bool false]) (by simp [results,Tryz.results16,go_sem,r0,r1,r2]) rfl ⟨rfl,?_,?_⟩
   · exact D5.out.chg hCf (fun b e e2=>hNX b (by omega) (by first|exact e|(rw [del_k] at e;exact e))) (fun e=>by have:=HH.out.r.v.lt;omega)
   · exact (((Chg.refl _ w).alloc _).trans C5.out).trans' hCf (fun b hb e=>by omega)
 · rw [hhas]
   rw [hat] at FI
   have DR:=hiq (fun (w':World) (h':DM w' Rb X gt tcap p0 pt s tk (L0+(s.lkT key hs:Nat)) (upd Lc (s.y hs) (Lc (s.y hs)+(s.lkU key hs:Nat))))=>h'.delRow hk hb1 hb2 key hh)
   have RW:=hiq (fun (w':World) (h':DM w' Rb X gt tcap p0 pt s tk (L0+(s.lkT key hs:Nat)) (upd Lc (s.y hs) (Lc (s.y hs)+(s.lkU key hs:Nat))))=>h'.rowAt hrow hh)
   have AG:=hiq (fun (w':World) (L2:Int) (Lc2:Nat→Int) (g cap base:Nat) (h':DM w' Rb X gt tcap p0 pt (s.del key hs) tk L2 Lc2)=>DM.again (L0:=L0+(s.lkT key hs:Nat)) (Lc:=upd Lc (s.y hs) (Lc (s.y hs)+(s.lkU key hs:Nat))) (g:=g) (cap:=cap) (base:=base) h')
   rw [del_k] at AG
   generalize L0+(s.lkT key hs:Nat)=L1 at *
   generalize upd Lc (s.y hs) (Lc (s.y hs)+(s.lkU key hs:Nat))=Lc1 at *
   generalize (if s.inU key hs=true then (pt (s.y hs)).D else p0.D)=td at *
   have hidx:¬ ((idx:Int)<0):=by omega
   have hidx':(0:Int)≤(idx:Int):=by omega
   have LK:=hiq (fun (w':World) (h':DM w' Rb X gt tcap p0 pt s tk L1 Lc1)=>h'.looks)
   clear h hrow
   go_enter Tryz.func16,Tryz.ntmps16
   go_wp2_with (first|(go_at_call 18;(with_reducible refine (FI.out _ (HH.out.later (by go_grown))).mono ?_);rintro e w1 ⟨rfl,hd1,hc1⟩;have D1:=hiq hd1;have C1:=hiq hc1;have R6:=hiq ((Blk.new w 41 #[.int .u64 0,.int .u64 0,.int .u64 0]).chg hc1 (hNX _ (by omega)));have z1:w.heap.size+1≤w1.heap.size:=(by simpa using hc1.size);clear hd1 hc1)|(go_at_call 51;((with_reducible refine (LK.out _ (D1.out.later (by go_grown))).mono ?_);rintro e w2 ⟨g,cap,rfl,hrow2,hb2⟩;have B1:Below w1.heap.size w1 (w1.alloc (.cells #[.int .u64 k0,.int .u64 k1,.int .u64 k2] 41)):=(Below.refl _ _).alloc (Nat.le_refl _) _;have D2:=hiq ((D1.out.later B1).later hb2);have C2:=hiq ((C1.out.thenBelow B1).thenBelow hb2);have R62:=hiq ((R6.out.below B1 R6.out.lt).below hb2 (by have:=R6.out.lt;have:=B1.size;omega));have R82:=hiq ((Blk.new w1 41 #[.int .u64 k0,.int .u64 k1,.int .u64 k2]).below hb2 (by simp));have ROW:=hiq hrow2;have hgB:B6≤g:=(by have:=(hrow2.lt g rfl).1;have:=B1.size;omega);have hgz:=(hrow2.lt g rfl).2;have hgx:=hNX g hgB;clear hrow2 hb2 B1))|(go_at_call 52;((with_reducible refine (RW.out _ D2.out).mono ?_);rintro e w3 ⟨g3,n3,rfl,hn3,hg3,hz3,hc3,hb3⟩;have D3:=hiq (D2.out.later hb3);have C3:=hiq (C2.out.thenBelow hb3);have R63:=hiq (R62.out.below hb3 R62.out.lt);have R83:=hiq (R82.out.below hb3 R82.out.lt);have ROW3:=hiq (ownsRow_later ROW.out hb3);clear hb3))|(go_at_call 58;((with_reducible refine (DR.out _ D3.out).mono ?_);rintro e w4 ⟨v4,rfl,L4,Lc4,hd4,hc4⟩;have D4:=hiq hd4;have C4:=hiq (C3.out.trans hc4);have R64:=hiq (R63.out.chg hc4 (hNX _ (by omega)));have R84:=hiq (R83.out.chg hc4 (hNX _ (by omega)));have ROW4:=hiq (ownsRow_chgB ROW3.out hc4 (fun b e=>by cases e;exact hgx));clear hd4 hc4))|(go_at_call 53;((with_reducible refine (AG.out _ L4 Lc4 g cap _ D4.out ROW4.out hgx).mono ?_);rintro e w5 ⟨rfl,hd5,hc5⟩;have D5:=hiq hd5;have C5:=hiq (C4.out.trans hc5);have R65:=hiq (R64.out.chg hc5 (hNX _ (by omega)));have R85:=hiq (R84.out.chg hc5 (hNX _ (by omega)));have r6:=cells3 R65.out;have r60:=r6.1;have r61:=r6.2.1;have r62:=r6.2.2;have r8:=cells3 R85.out;have r80:=r8.1;have r81:=r8.2.1;have r82:=r8.2.2;have zr6:=R65.out.lt;have zr8:=R85.out.lt;have rf6:=fun j=>R65.out.frozen j;clear r6 r8 hd5 hc5)))
   refine wp_end_at (fun Wf hWf=>?_)
   have hR:Blk Wf w.heap.size 41 #[.int .u64 k0,.int .u64 k1,.int .u64 k2]:=by rw [hWf];exact (((R65.out.set 0 _).set 1 _).set 2 _)
   obtain ⟨r0,r1,r2⟩:=cells3 hR
   have hCf:Chg (fun b=>b=w.heap.size) w5 Wf:=by rw [hWf];exact ((((Chg.refl _ _).set1 _ _).set1 _ _).set1 _ _)
   clear hWf
   refine bodyPost_ret (v := .tuple #[.agg #[.int .u64 k0,.int .u64 k1,.int .u64 k2],.bool true]) (by simp [results,Tryz.results16,go_sem,r0,r1,r2]) rfl ⟨rfl,?_,?_⟩
   · exact D5.out.chg hCf (fun b e e2=>hNX b (by omega) (by first|exact e|(rw [del_k] at e;exact e))) (fun e=>by have:=HH.out.r.v.lt;omega)
   · exact (((Chg.refl _ w).alloc _).trans C5.out).trans' hCf (fun b hb e=>by omega)
end
section
variable {w w':World} {Rb X gt tcap:Nat} {p0:PB} {pt:Nat→PB} {s:DuS} {tk:Bool} {L0:Int} {Lc:Nat→Int} {hs:Nat}
theorem putN_has {T:TabS} {key:Int} {hs:Nat} (h:T.has key hs=true):T.putN key hs=0:=by unfold TabS.putN;rw [if_pos (.inl h)]
theorem DM.putRow (h:DM w Rb X gt tcap p0 pt s tk L0 Lc) (hk:s.y hs<s.k) (hL:0≤L0∧L0≤1000000000) (hLc:0≤Lc (s.y hs)∧Lc (s.y hs)≤1000000000) (key v:Int) (more:Bool) (hh:hs<18446744073709551616) (hhas:s.has key hs=true) :
 Calls Tryz.prog 46 #[.pointer (some ⟨if s.inU key hs=true then (pt (s.y hs)).D else p0.D,0,none⟩),.agg #[.int .u64 key,.int .u64 v,.int .u64 (hs:Int)]] w fun e w' =>
  ∃b,e = .returned (.tuple #[.bool b,.int .i64 0])∧∃L' Lc',DM w' Rb X gt tcap p0 pt (s.put key v hs more) tk L' Lc'∧Chg (DMX Rb X p0 pt s.k) w w':=by
 unfold DuS.put
 cases hi:s.inU key hs with
 | true =>
  rw [if_pos rfl,if_pos rfl]
  refine ((h.r.t _ hk).put hLc key v hs hh).mono ?_
  rintro e w' ⟨rfl,h1,h2⟩
  obtain ⟨h3,h4⟩:=h.tgtTurn hk h1 h2
  exact ⟨_,by rw [putN_has (DuOK.inU0 hi).2];rfl,_,_,h3,h4⟩
 | false =>
  have ht:s.T.has key hs=true:=by unfold DuS.has at hhas;rw [hi] at hhas;simpa using hhas
  rw [if_neg (by simp),if_neg (by simp),if_pos ht]
  refine (h.r.o.put hL key v hs hh).mono ?_
  rintro e w' ⟨rfl,h1,h2⟩
  obtain ⟨h3,h4⟩:=h.oldTurn h1 h2
  exact ⟨_,by rw [putN_has ht];rfl,_,_,h3,h4⟩
theorem DM.putFst (h:DM w Rb X gt tcap p0 pt s tk L0 Lc) (hk:s.y hs<s.k) (hL:0≤L0∧L0≤1000000000) (hLc:0≤Lc (s.y hs)∧Lc (s.y hs)≤1000000000) (key v:Int) (hh:hs<18446744073709551616) (hhas:s.has key hs=false) :
 Calls Tryz.prog 46 #[.pointer (some ⟨if s.bare=0 then (pt (s.y hs)).D else p0.D,0,none⟩),.agg #[.int .u64 key,.int .u64 v,.int .u64 (hs:Int)]] w fun e w' =>
  e = .returned (.tuple #[.bool (s.putB key hs true),.int .i64 ((s.putN key hs true:Nat):Int)])∧∃L' Lc',DM w' Rb X gt tcap p0 pt (s.put key v hs true) tk L' Lc'∧Chg (DMX Rb X p0 pt s.k) w w':=by
 have h0:=hhas
 unfold DuS.has at h0
 rw [Bool.or_eq_false_iff] at h0
 unfold DuS.put DuS.putB DuS.putN DuS.fst
 rw [hhas,h0.1,h0.2]
 simp only [Bool.false_eq_true,if_false,Bool.not_false,Bool.true_and,Bool.true_eq_false]
 by_cases hb:s.bare=0
 · simp only [if_pos hb]
   refine ((h.r.t _ hk).put hLc key v hs hh).mono ?_
   rintro e w' ⟨rfl,h1,h2⟩
   obtain ⟨h3,h4⟩:=h.tgtTurn hk h1 h2
   exact ⟨rfl,_,_,h3,h4⟩
 · simp only [if_neg hb]
   refine (h.r.o.put hL key v hs hh).mono ?_
   rintro e w' ⟨rfl,h1,h2⟩
   obtain ⟨h3,h4⟩:=h.oldTurn h1 h2
   exact ⟨rfl,_,_,h3,h4⟩
theorem put_kk (s:DuS) (key v:Int) (hs:Nat) (more:Bool):(s.put key v hs more).k=s.k:=by
 unfold DuS.put;split
 · rfl
 · split
   · rfl
   · split
     · rfl
     · split <;> rfl
theorem DM.putNo (h:DM w Rb X gt tcap p0 pt s tk L0 Lc) (hk:s.y hs<s.k) (hL:0≤L0∧L0≤100000000) (hLc:0≤Lc (s.y hs)∧Lc (s.y hs)≤100000000) (key v:Int) (hh:hs<18446744073709551616) (hhas:s.has key hs=false) :
 Calls Tryz.prog 13 #[.pointer (some ⟨Rb,0,none⟩),.agg #[.int .u64 key,.int .u64 v,.int .u64 (hs:Int)],.bool false] w fun e w' =>
  e = .returned (.tuple #[.bool false,.int .i64 2])∧DM w' Rb X gt tcap p0 pt s tk (L0+s.lkT key hs) (upd Lc (s.y hs) (Lc (s.y hs)+s.lkU key hs))∧Chg (DMX Rb X p0 pt s.k) w w':=by
 have hb1:0≤L0+(s.lkT key hs:Nat)∧L0+(s.lkT key hs:Nat)≤1000000000:=by
  have:=looks_le_n h.r.o.good key hs
  have:=h.r.o.good.bounds
  unfold DuS.lkT;split <;> omega
 have hb2:0≤upd Lc (s.y hs) (Lc (s.y hs)+(s.lkU key hs:Nat)) (s.y hs)∧upd Lc (s.y hs) (Lc (s.y hs)+(s.lkU key hs:Nat)) (s.y hs)≤1000000000:=by
  rw [upd_same]
  have:=looks_le_n (h.r.t _ hk).good key hs
  have:=(h.r.t _ hk).good.bounds
  unfold DuS.lkU;split <;> omega
 replace hL:0≤L0∧L0≤1000000000:=⟨hL.1,by omega⟩
 replace hLc:0≤Lc (s.y hs)∧Lc (s.y hs)≤1000000000:=⟨hLc.1,by omega⟩
 have HH:=hiq h
 have FI:=hiq (fun (w':World) (h':DM w' Rb X gt tcap p0 pt s tk L0 Lc)=>h'.find hk hL hLc key hh)
 have HLT:=hiq h.lt
 obtain ⟨B6,hB6⟩:=exq w.heap.size
 have hB6':w.heap.size≤B6:=Nat.le_of_eq hB6.symm
 have hNX:∀b,B6≤b→¬DMX Rb X p0 pt s.k b:=fun b hb e=>by have:=HLT.out b e;omega
 obtain ⟨en,hen⟩:=exq (s.ent key hs)
 rw [←hen] at FI
 clear hen
 obtain ⟨k0,k1,k2⟩:=en
 dsimp only at FI
 have hat:s.atI key hs = -1:=by
  rcases atI_row s p0 pt key hs with ⟨-,h'⟩ | ⟨h',-⟩
  · exact h'
  · rw [hhas] at h';cases h'
 rw [hat] at FI
 generalize L0+(s.lkT key hs:Nat)=L1 at *
 generalize upd Lc (s.y hs) (Lc (s.y hs)+(s.lkU key hs:Nat))=Lc1 at *
 have LK:=hiq (fun (w':World) (h':DM w' Rb X gt tcap p0 pt s tk L1 Lc1)=>h'.looks)
 clear h
 go_enter Tryz.func13,Tryz.ntmps13
 go_wp2_with (first|(go_at_call 18;((with_reducible refine (FI.out _ (HH.out.later (by go_grown))).mono ?_);rintro e w1 ⟨rfl,hd1,hc1⟩;have D1:=hiq hd1;have C1:=hiq hc1;have R6:=hiq ((Blk.new w 41 #[.int .u64 key,.int .u64 v,.int .u64 (hs:Int)]).chg hc1 (hNX _ (by omega)));have z1:w.heap.size+1≤w1.heap.size:=(by simpa using hc1.size);clear hd1 hc1))|(go_at_call 51;((with_reducible refine (LK.out _ (D1.out.later (by go_grown))).mono ?_);rintro e w2 ⟨g,cap,rfl,hrow2,hb2⟩;have B1:Below w1.heap.size w1 (w1.alloc (.cells #[.int .u64 k0,.int .u64 k1,.int .u64 k2] 41)):=(Below.refl _ _).alloc (Nat.le_refl _) _;have D2:=hiq ((D1.out.later B1).later hb2);have C2:=hiq ((C1.out.thenBelow B1).thenBelow hb2);have R62:=hiq ((R6.out.below B1 R6.out.lt).below hb2 (by have:=R6.out.lt;have:=B1.size;omega));have ROW:=hiq hrow2;have hgB:B6≤g:=(by have:=(hrow2.lt g rfl).1;have:=B1.size;omega);have hgz:=(hrow2.lt g rfl).2;have hgx:=hNX g hgB;have r6:=cells3 R62.out;have r60:=r6.1;have r61:=r6.2.1;have r62:=r6.2.2;have zr6:=R62.out.lt;clear r6 hrow2 hb2 B1))|(go_at_call 53;((with_reducible refine (DM.again D2.out ROW.out hgx).mono ?_);rintro e w5 ⟨rfl,hd5,hc5⟩;have D5:=hiq hd5;have C5:=hiq (C2.out.trans hc5);clear hd5 hc5)))
 go_ret2
 exact ⟨rfl,D5.out,((Chg.refl _ w).alloc _).trans C5.out⟩
theorem DM.putNew (h:DM w Rb X gt tcap p0 pt s tk L0 Lc) (hk:s.y hs<s.k) (hL:0≤L0∧L0≤100000000) (hLc:0≤Lc (s.y hs)∧Lc (s.y hs)≤100000000) (key v:Int) (hh:hs<18446744073709551616) (hhas:s.has key hs=false) :
 Calls Tryz.prog 13 #[.pointer (some ⟨Rb,0,none⟩),.agg #[.int .u64 key,.int .u64 v,.int .u64 (hs:Int)],.bool true] w fun e w' =>
  e = .returned (.tuple #[.bool (s.putB key hs true),.int .i64 ((s.putN key hs true:Nat):Int)])∧DM w' Rb X gt tcap p0 pt (s.put key v hs true) tk (L0+s.lkT key hs) (upd Lc (s.y hs) (Lc (s.y hs)+s.lkU key hs))∧Chg (DMX Rb X p0 pt s.k) w w':=by
 have hb1:0≤L0+(s.lkT key hs:Nat)∧L0+(s.lkT key hs:Nat)≤1000000000:=by
  have:=looks_le_n h.r.o.good key hs
  have:=h.r.o.good.bounds
  unfold DuS.lkT;split <;> omega
 have hb2:0≤upd Lc (s.y hs) (Lc (s.y hs)+(s.lkU key hs:Nat)) (s.y hs)∧upd Lc (s.y hs) (Lc (s.y hs)+(s.lkU key hs:Nat)) (s.y hs)≤1000000000:=by
  rw [upd_same]
  have:=looks_le_n (h.r.t _ hk).good key hs
  have:=(h.r.t _ hk).good.bounds
  unfold DuS.lkU;split <;> omega
 replace hL:0≤L0∧L0≤1000000000:=⟨hL.1,by omega⟩
 replace hLc:0≤Lc (s.y hs)∧Lc (s.y hs)≤1000000000:=⟨hLc.1,by omega⟩
 have HH:=hiq h
 have FI:=hiq (fun (w':World) (h':DM w' Rb X gt tcap p0 pt s tk L0 Lc)=>h'.find hk hL hLc key hh)
 have HLT:=hiq h.lt
 obtain ⟨B6,hB6⟩:=exq w.heap.size
 have hB6':w.heap.size≤B6:=Nat.le_of_eq hB6.symm
 have hNX:∀b,B6≤b→¬DMX Rb X p0 pt s.k b:=fun b hb e=>by have:=HLT.out b e;omega
 obtain ⟨en,hen⟩:=exq (s.ent key hs)
 rw [←hen] at FI
 clear hen
 obtain ⟨k0,k1,k2⟩:=en
 dsimp only at FI
 have hat:s.atI key hs = -1:=by
  rcases atI_row s p0 pt key hs with ⟨-,h'⟩ | ⟨h',-⟩
  · exact h'
  · rw [hhas] at h';cases h'
 rw [hat] at FI
 have PF:=hiq (fun (w':World) (h':DM w' Rb X gt tcap p0 pt s tk (L0+(s.lkT key hs:Nat)) (upd Lc (s.y hs) (Lc (s.y hs)+(s.lkU key hs:Nat))))=>h'.putFst hk hb1 hb2 key v hh hhas)
 have RW:=hiq (fun (w':World) (h':DM w' Rb X gt tcap p0 pt s tk (L0+(s.lkT key hs:Nat)) (upd Lc (s.y hs) (Lc (s.y hs)+(s.lkU key hs:Nat))))=>DM.rowAt (idx:=0) (.inl ⟨rfl,rfl⟩) h' hh)
 have AG:=hiq (fun (w':World) (L2:Int) (Lc2:Nat→Int) (g cap base:Nat) (h':DM w' Rb X gt tcap p0 pt (s.put key v hs true) tk L2 Lc2)=>DM.again (L0:=L0+(s.lkT key hs:Nat)) (Lc:=upd Lc (s.y hs) (Lc (s.y hs)+(s.lkU key hs:Nat))) (g:=g) (cap:=cap) (base:=base) h')
 rw [put_kk] at AG
 generalize L0+(s.lkT key hs:Nat)=L1 at *
 generalize upd Lc (s.y hs) (Lc (s.y hs)+(s.lkU key hs:Nat))=Lc1 at *
 generalize (if s.bare=0 then (pt (s.y hs)).D else p0.D)=td at *
 generalize s.putB key hs true=pB at *
 generalize s.putN key hs true=pN at *
 have LK:=hiq (fun (w':World) (h':DM w' Rb X gt tcap p0 pt s tk L1 Lc1)=>h'.looks)
 clear h
 go_enter Tryz.func13,Tryz.ntmps13
 go_wp2_with (first|(go_at_call 18;((with_reducible refine (FI.out _ (HH.out.later (by go_grown))).mono ?_);rintro e w1 ⟨rfl,hd1,hc1⟩;have D1:=hiq hd1;have C1:=hiq hc1;have R6:=hiq ((Blk.new w 41 #[.int .u64 key,.int .u64 v,.int .u64 (hs:Int)]).chg hc1 (hNX _ (by omega)));have z1:w.heap.size+1≤w1.heap.size:=(by simpa using hc1.size);clear hd1 hc1))|(go_at_call 51;((with_reducible refine (LK.out _ (D1.out.later (by go_grown))).mono ?_);rintro e w2 ⟨g,cap,rfl,hrow2,hb2⟩;have B1:Below w1.heap.size w1 (w1.alloc (.cells #[.int .u64 k0,.int .u64 k1,.int .u64 k2] 41)):=(Below.refl _ _).alloc (Nat.le_refl _) _;have D2:=hiq ((D1.out.later B1).later hb2);have C2:=hiq ((C1.out.thenBelow B1).thenBelow hb2);have R62:=hiq ((R6.out.below B1 R6.out.lt).below hb2 (by have:=R6.out.lt;have:=B1.size;omega));have ROW:=hiq hrow2;have hgB:B6≤g:=(by have:=(hrow2.lt g rfl).1;have:=B1.size;omega);have hgz:=(hrow2.lt g rfl).2;have hgx:=hNX g hgB;have r6:=cells3 R62.out;have r60:=r6.1;have r61:=r6.2.1;have r62:=r6.2.2;have zr6:=R62.out.lt;clear r6 hrow2 hb2 B1)))
 have hgx4:¬DMX Rb X p0 pt s.k w.heap.size:=hNX _ (by omega)
 refine wp_region_seq (fun b=>DMX Rb X p0 pt s.k b) #[⟨0,0,33554432,1,0⟩,⟨0,0,67108864,16,0⟩,⟨2,2,134217728,67108864,1⟩,⟨5,7,268435456,167772160,2⟩,⟨8,15,536870912,268435456,0⟩,⟨16,31,1073741824,536870912,1⟩,⟨0,0,2147483648,16,1⟩,⟨104,127,4294967296,3221225472,3⟩,⟨128,255,16777216,4294967296,0⟩,⟨256,511,8589934592,16777216,0⟩,⟨256,511,17179869184,16777216,0⟩,⟨1023,1023,4096,8589934592,0⟩,⟨4095,4095,2048,17179869184,0⟩] 100 [(0,0),(1,0),(2,1),(6,1),(3,2),(4,0),(5,1),(7,3),(8,0),(9,0),(10,0),(11,0),(12,0)] (by kernel_rfl) (by kernel_rfl) (by kernel_rfl) (by kernel_rfl) (by kernel_rfl) (by kernel_rfl) (fun c a d v w h=>by cases d <;> exact h) ?_
 refine zqC ?_;refine zqC ?_
 refine zq1 Tryz.underlying39 ?_
 try refine zqP ?_
 refine zqL [_,_,_] Tryz.underlying41 ?_
 try refine zqP ?_
 refine zqD fun K hK=>?_;go_wp2_with ((go_at_call 52;((with_reducible refine (RW.out _ (D2.out.later (Below.refl _ _).drew)).mono ?_);rintro e w3 ⟨g3,n3,rfl,hn3,hg3,hz3,hc3,hb3'⟩;have hn3':0<n3:=(by omega);have hgx3:¬DMX Rb X p0 pt s.k g3:=hNX g3 (by have:=C2.out.size;simp at *;omega);have hb3:=Below.undrew hb3';have D3:=hiq (D2.out.later hb3);have C3:=hiq (C2.out.thenBelow hb3);have R63:=hiq (R62.out.below hb3 R62.out.lt);have ROW3:=hiq (ownsRow_later ROW.out hb3);have q6:=cells3 R63.out;have q60:=q6.1;have q61:=q6.2.1;have q62:=q6.2.2;have zq6:=R63.out.lt;have hb3'':Below w2.heap.size w2.drew w3:=hb3';clear q6)));refine hkA hK (h:=?_);clear hK K
 try refine zqP ?_;refine zqC ?_
 refine zq1 Tryz.underlying70 ?_
 try refine zqP ?_
 refine zqE fun K hK=>?_;go_wp2_with ((go_at_call 46;((with_reducible refine (PF.out _ D3.out).mono ?_);rintro e w4 ⟨rfl,L4,Lc4,hd4,hc4⟩;have D4:=hiq hd4;have C4:=hiq (C3.out.trans hc4);have ROW4:=hiq (ownsRow_chgB ROW3.out hc4 (fun b e=>by cases e;exact hgx));clear hd4)));refine hK.out _ _ ?_;clear hK K
 try refine zqP ?_;refine zqC ?_;refine zqC ?_;refine zqC ?_;refine zqC ?_;refine zqC ?_
 refine seq_nil ?_
 go_wp2_with (first|(go_at_call 53;((with_reducible refine (AG.out _ L4 Lc4 g cap _ D4.out ROW4.out hgx).mono ?_);rintro e w5 ⟨rfl,hd5,hc5⟩;have D5:=hiq hd5;have C5:=hiq (C4.out.trans hc5);clear hd5 hc5)))
 go_ret2
 exact ⟨rfl,D5.out,((Chg.refl _ w).alloc _).trans C5.out⟩
theorem DM.putHas (h:DM w Rb X gt tcap p0 pt s tk L0 Lc) (hk:s.y hs<s.k) (hL:0≤L0∧L0≤100000000) (hLc:0≤Lc (s.y hs)∧Lc (s.y hs)≤100000000) (key v:Int) (more:Bool) (hh:hs<18446744073709551616) (hhas:s.has key hs=true) :
 Calls Tryz.prog 13 #[.pointer (some ⟨Rb,0,none⟩),.agg #[.int .u64 key,.int .u64 v,.int .u64 (hs:Int)],.bool more] w fun e w' =>
  e = .returned (.tuple #[.bool false,.int .i64 0])∧DM w' Rb X gt tcap p0 pt (s.put key v hs more) tk (L0+s.lkT key hs) (upd Lc (s.y hs) (Lc (s.y hs)+s.lkU key hs))∧Chg (DMX Rb X p0 pt s.k) w w':=by
 have hb1:0≤L0+(s.lkT key hs:Nat)∧L0+(s.lkT key hs:Nat)≤1000000000:=by
  have:=looks_le_n h.r.o.good key hs
  have:=h.r.o.good.bounds
  unfold DuS.lkT;split <;> omega
 have hb2:0≤upd Lc (s.y hs) (Lc (s.y hs)+(s.lkU key hs:Nat)) (s.y hs)∧upd Lc (s.y hs) (Lc (s.y hs)+(s.lkU key hs:Nat)) (s.y hs)≤1000000000:=by
  rw [upd_same]
  have:=looks_le_n (h.r.t _ hk).good key hs
  have:=(h.r.t _ hk).good.bounds
  unfold DuS.lkU;split <;> omega
 replace hL:0≤L0∧L0≤1000000000:=⟨hL.1,by omega⟩
 replace hLc:0≤Lc (s.y hs)∧Lc (s.y hs)≤1000000000:=⟨hLc.1,by omega⟩
 have HH:=hiq h
 have FI:=hiq (fun (w':World) (h':DM w' Rb X gt tcap p0 pt s tk L0 Lc)=>h'.find hk hL hLc key hh)
 have HLT:=hiq h.lt
 obtain ⟨B6,hB6⟩:=exq w.heap.size
 have hB6':w.heap.size≤B6:=Nat.le_of_eq hB6.symm
 have hNX:∀b,B6≤b→¬DMX Rb X p0 pt s.k b:=fun b hb e=>by have:=HLT.out b e;omega
 obtain ⟨en,hen⟩:=exq (s.ent key hs)
 rw [←hen] at FI
 clear hen
 obtain ⟨k0,k1,k2⟩:=en
 dsimp only at FI
 obtain ⟨idx,hat,hrow⟩:∃idx:Nat,s.atI key hs=(idx:Int)∧RowAt s p0 pt hs idx (if s.inU key hs=true then (pt (s.y hs)).D else p0.D):=by
  rcases atI_row s p0 pt key hs with ⟨h',-⟩ | ⟨-,h'⟩
  · rw [hhas] at h';cases h'
  · exact h'
 rw [hat] at FI
 have hidx:¬ ((idx:Int)<0):=by omega
 have hidx':(0:Int)≤(idx:Int):=by omega
 have PF:=hiq (fun (w':World) (h':DM w' Rb X gt tcap p0 pt s tk (L0+(s.lkT key hs:Nat)) (upd Lc (s.y hs) (Lc (s.y hs)+(s.lkU key hs:Nat))))=>h'.putRow hk hb1 hb2 key v more hh hhas)
 have RW:=hiq (fun (w':World) (h':DM w' Rb X gt tcap p0 pt s tk (L0+(s.lkT key hs:Nat)) (upd Lc (s.y hs) (Lc (s.y hs)+(s.lkU key hs:Nat))))=>DM.rowAt hrow h' hh)
 have AG:=hiq (fun (w':World) (L2:Int) (Lc2:Nat→Int) (g cap base:Nat) (h':DM w' Rb X gt tcap p0 pt (s.put key v hs more) tk L2 Lc2)=>DM.again (L0:=L0+(s.lkT key hs:Nat)) (Lc:=upd Lc (s.y hs) (Lc (s.y hs)+(s.lkU key hs:Nat))) (g:=g) (cap:=cap) (base:=base) h')
 rw [put_kk] at AG
 generalize L0+(s.lkT key hs:Nat)=L1 at *
 generalize upd Lc (s.y hs) (Lc (s.y hs)+(s.lkU key hs:Nat))=Lc1 at *
 generalize (if s.inU key hs=true then (pt (s.y hs)).D else p0.D)=td at *
 have LK:=hiq (fun (w':World) (h':DM w' Rb X gt tcap p0 pt s tk L1 Lc1)=>h'.looks)
 clear h hrow
 go_enter Tryz.func13,Tryz.ntmps13
 go_wp2_with (first|(go_at_call 18;((with_reducible refine (FI.out _ (HH.out.later (by go_grown))).mono ?_);rintro e w1 ⟨rfl,hd1,hc1⟩;have D1:=hiq hd1;have C1:=hiq hc1;have R6:=hiq ((Blk.new w 41 #[.int .u64 key,.int .u64 v,.int .u64 (hs:Int)]).chg hc1 (hNX _ (by omega)));have z1:w.heap.size+1≤w1.heap.size:=(by simpa using hc1.size);clear hd1 hc1))|(go_at_call 51;((with_reducible refine (LK.out _ (D1.out.later (by go_grown))).mono ?_);rintro e w2 ⟨g,cap,rfl,hrow2,hb2⟩;have B1:Below w1.heap.size w1 (w1.alloc (.cells #[.int .u64 k0,.int .u64 k1,.int .u64 k2] 41)):=(Below.refl _ _).alloc (Nat.le_refl _) _;have D2:=hiq ((D1.out.later B1).later hb2);have C2:=hiq ((C1.out.thenBelow B1).thenBelow hb2);have R62:=hiq ((R6.out.below B1 R6.out.lt).below hb2 (by have:=R6.out.lt;have:=B1.size;omega));have ROW:=hiq hrow2;have hgB:B6≤g:=(by have:=(hrow2.lt g rfl).1;have:=B1.size;omega);have hgz:=(hrow2.lt g rfl).2;have hgx:=hNX g hgB;have r6:=cells3 R62.out;have r60:=r6.1;have r61:=r6.2.1;have r62:=r6.2.2;have zr6:=R62.out.lt;clear r6 hrow2 hb2 B1)))
 have hgx4:¬DMX Rb X p0 pt s.k w.heap.size:=hNX _ (by omega)
 refine wp_region_seq (fun b=>DMX Rb X p0 pt s.k b) #[⟨0,0,549755813888,1,0⟩,⟨0,0,1099511627776,16,0⟩,⟨2,2,2199023255552,1099511627776,1⟩,⟨5,7,4398046511104,2748779069440,2⟩,⟨0,0,8796093022208,512,0⟩,⟨24,31,17592186044416,13194139533312,0⟩,⟨32,63,35184372088832,17592186044416,1⟩,⟨0,0,70368744177664,16,1⟩,⟨200,255,140737488355328,105553116266496,3⟩,⟨256,511,274877906944,140737488355328,0⟩,⟨512,1023,281474976710656,274877906944,0⟩,⟨512,1023,562949953421312,274877906944,0⟩,⟨4095,4095,2048,562949953421312,0⟩] 196 [(0,0),(1,0),(2,1),(4,0),(7,1),(3,2),(5,0),(6,1),(8,3),(9,0),(10,0),(11,0),(12,0)] (by kernel_rfl) (by kernel_rfl) (by kernel_rfl) (by kernel_rfl) (by kernel_rfl) (by kernel_rfl) (fun c a d v w h=>by cases d <;> exact h) ?_
 refine zqC ?_;refine zqC ?_
 refine zq1 Tryz.underlying39 ?_
 try refine zqP ?_;refine zqC ?_
 refine zqL [_,_,_] Tryz.underlying41 ?_
 try refine zqP ?_
 refine zqD fun K hK=>?_;go_wp2_with ((go_at_call 52;((with_reducible refine (RW.out _ (D2.out.later (Below.refl _ _).drew)).mono ?_);rintro e w3 ⟨g3,n3,rfl,hn3,hg3,hz3,hc3,hb3'⟩;have hn3':0<n3:=(by omega);have hgx3:¬DMX Rb X p0 pt s.k g3:=hNX g3 (by have:=C2.out.size;simp at *;omega);have hb3:=Below.undrew hb3';have D3:=hiq (D2.out.later hb3);have C3:=hiq (C2.out.thenBelow hb3);have R63:=hiq (R62.out.below hb3 R62.out.lt);have ROW3:=hiq (ownsRow_later ROW.out hb3);have q6:=cells3 R63.out;have q60:=q6.1;have q61:=q6.2.1;have q62:=q6.2.2;have zq6:=R63.out.lt;have hb3'':Below w2.heap.size w2.drew w3:=hb3';clear q6)));refine hkA hK (h:=?_);clear hK K
 try refine zqP ?_;refine zqC ?_
 refine zq1 Tryz.underlying70 ?_
 try refine zqP ?_
 refine zqE fun K hK=>?_;go_wp2_with ((go_at_call 46;((with_reducible refine (PF.out _ D3.out).mono ?_);rintro e w4 ⟨b4,rfl,L4,Lc4,hd4,hc4⟩;have D4:=hiq hd4;have C4:=hiq (C3.out.trans hc4);have ROW4:=hiq (ownsRow_chgB ROW3.out hc4 (fun b e=>by cases e;exact hgx));clear hd4)));refine hK.out _ _ ?_;clear hK K
 try refine zqP ?_;refine zqC ?_;refine zqC ?_;refine zqC ?_;refine zqC ?_
 refine seq_nil ?_
 go_wp2_with (first|(go_at_call 53;((with_reducible refine (AG.out _ L4 Lc4 g cap _ D4.out ROW4.out hgx).mono ?_);rintro e w5 ⟨rfl,hd5,hc5⟩;have D5:=hiq hd5;have C5:=hiq (C4.out.trans hc5);clear hd5 hc5)))
 go_ret2
 exact ⟨rfl,D5.out,((Chg.refl _ w).alloc _).trans C5.out⟩
theorem DM.put (h:DM w Rb X gt tcap p0 pt s tk L0 Lc) (hk:s.y hs<s.k) (hL:0≤L0∧L0≤100000000) (hLc:0≤Lc (s.y hs)∧Lc (s.y hs)≤100000000) (key v:Int) (more:Bool) (hh:hs<18446744073709551616) :
 Calls Tryz.prog 13 #[.pointer (some ⟨Rb,0,none⟩),.agg #[.int .u64 key,.int .u64 v,.int .u64 (hs:Int)],.bool more] w fun e w' =>
  e = .returned (.tuple #[.bool (s.putB key hs more),.int .i64 ((s.putN key hs more:Nat):Int)])∧DM w' Rb X gt tcap p0 pt (s.put key v hs more) tk (L0+s.lkT key hs) (upd Lc (s.y hs) (Lc (s.y hs)+s.lkU key hs))∧Chg (DMX Rb X p0 pt s.k) w w':=by
 cases hhas:s.has key hs with
 | true =>
  have e1:s.putB key hs more=false:=by unfold DuS.putB;rw [hhas];rfl
  have e2:s.putN key hs more=0:=by unfold DuS.putN;rw [if_pos hhas]
  rw [e1,e2]
  exact h.putHas hk hL hLc key v more hh hhas
 | false =>
  cases more with
  | true=>exact h.putNew hk hL hLc key v hh hhas
  | false =>
   have e1:s.putB key hs false=false:=by unfold DuS.putB;rw [Bool.and_false,Bool.false_and]
   have e2:s.putN key hs false=2:=by unfold DuS.putN;rw [if_neg (by rw [hhas];simp),if_pos rfl]
   have h0:=hhas
   unfold DuS.has at h0
   rw [Bool.or_eq_false_iff] at h0
   have e3:s.put key v hs false=s:=by unfold DuS.put;rw [h0.1,h0.2];rfl
   rw [e1,e2,e3]
   exact h.putNo hk hL hLc key v hh hhas
end
def DuS.groups (s:DuS):Nat:=s.T.n+s.k*s.gn
def DuS.glook (s:DuS):Nat:=if s.bare=0 then s.groups else s.T.n
section
variable {w w':World} {Rb X gt tcap:Nat} {p0:PB} {pt:Nat→PB} {s:DuS} {tk:Bool} {L0:Int} {Lc:Nat→Int} {hs:Nat}
theorem DM.groups (h:DM w Rb X gt tcap p0 pt s tk L0 Lc) (hok:DuOK s):Calls Tryz.prog 22 #[.pointer (some ⟨Rb,0,none⟩)] w fun e w' =>
 e = .returned (.tuple #[.int .i64 ((s.groups:Nat):Int),.int .i64 ((s.glook:Nat):Int)])∧w'=w:=by
 have hn:=hok.t.bounds
 have hgb:=right_bd hok.hr
 have hk2:s.k≤2:=by rcases hok.hk with e|e <;> omega
 have HH:=hiq h
 have UN:=hiq (fun i hi=>(hok.u i hi).2)
 have r0:=h.hd.cell 0
 have r1:=h.hd.cell 1
 obtain ⟨c0,c1,c2,c3,zX,fX⟩:=vmcells h.r.v
 obtain ⟨P,cap,d0⟩:=h.r.o.head
 have zD:=h.r.o.lt
 have zR:=h.hd.lt
 have LW':∀i,i<s.k→IntKind.i64.wrap (((s.T.n+i*s.gn:Nat):Int)+(s.gn:Int))=((s.T.n+(i+1)*s.gn:Nat):Int):=fun i hi=>by
  have:i*s.gn≤2*64:=Nat.mul_le_mul (by omega) hgb.2
  rw [IntKind.wrap_i64,Nat.succ_mul];omega
 clear h hok c2 fX
 unfold DuS.glook DuS.groups
 go_enter Tryz.func22,Tryz.ntmps22
 go_wp2
 go_loopw [4,28] (fun v4 v28 wr => ∃i:Nat,i≤s.k∧v28 = .int .i64 (i:Int)∧v4 = .int .i64 ((s.T.n+i*s.gn:Nat):Int)∧wr=w) (fun _ v28 _=>s.k-(intOf v28).toNat)
 case atStart=>exact ⟨0,Nat.zero_le _,rfl,by simp,rfl⟩
 case round =>
  obtain ⟨i,hi',rfl,rfl,rfl⟩:=hrel
  by_cases hlt:i<s.k
  · have l0:=HH.out.r.v.l i hlt
    have zG:=HH.out.r.v.lt
    obtain ⟨P1,cap1,e1⟩:=(HH.out.r.t i hlt).head
    rw [UN.out i hlt] at e1
    have zT:=(HH.out.r.t i hlt).lt
    have lw:=LW' i hlt
    generalize s.T.n+i*s.gn=nn at *
    obtain ⟨nn1,hnn1⟩:=exq (s.T.n+(i+1)*s.gn)
    rw [←hnn1] at lw
    have hnnI:(nn1:Int)=(s.T.n:Int)+((i:Int)+1)*(s.gn:Int):=by rw [hnn1];simp
    clear hnn1
    go_wp2
    exact ⟨⟨i+1,by omega,by simp,by first|exact hnnI|simp [hnnI]|(rw [lw];simp [hnnI]),trivial⟩,by simp [intOf];omega⟩
  · obtain rfl:i=s.k:=by omega
    by_cases hb:s.bare=0
    · rw [hb] at r1
      go_wp2
      go_ret2
      exact ⟨by simp [hb,go_sem],rfl⟩
    · have hbI:¬ (s.bare:Int)=0:=by omega
      go_wp2
      go_ret2
      exact ⟨by simp [hb,go_sem],rfl⟩
end
attribute [local go_sem] neq_nilG eql_nilG
section
variable {w:World} {lo hi D P cap:Nat} {GB:Nat→Nat} {T:TabS} {L:Int}
theorem dtall_any (hd:DT w lo hi D P cap GB T L) :
 Calls Tryz.prog 65 #[.pointer (some ⟨D,0,none⟩)] w fun e w' => ∃v,e = .returned v∧w'.ownsRow w.heap.size 41 3 v T.ents.length (entV T.ents)∧Below w.heap.size w w':=by
 have hbd:=hd.good.bounds
 have HD:=hiq hd
 have hn:T.n≤64:=hbd.1
 obtain ⟨c0,-,zD,-⟩:=dcells hd
 have HL:=hiq (entsTo_len T)
 have HL8:=hiq (fun k=>entsL_len (T.M k) (T.S k))
 rw [show T.ents=entsTo' T T.n from rfl]
 obtain ⟨n,hnn⟩:=exq T.n
 rw [←hnn] at c0 hn ⊢
 have HN:=hiq hnn
 clear hd hbd hnn
 go_enter Tryz.func65,Tryz.ntmps65
 go_wp2
 go_loopw [12,3] (fun v12 v3 wr => ∃k:Nat,k≤n∧v12 = .int .i64 (k:Int)∧wr.ownsRow w.heap.size 41 3 v3 (entsTo' T k).length (entV (entsTo' T k))∧Below w.heap.size w wr) (fun v12 _ _=>n-(intOf v12).toNat)
 case atStart=>exact ⟨0,Nat.zero_le _,rfl,⟨rfl,.inr ⟨w.heap.size,0,#[],rfl,Nat.le_refl _,Blk.new _ _ _,by simp [entsTo'],by decide,rfl,by simp [entsTo',entV]⟩⟩,by go_grown⟩
 case round =>
  clear c0
  obtain ⟨k,hk,rfl,hrow,hB⟩:=hrel
  have KR:=hiq hrow
  have KB:=hiq hB
  obtain ⟨a3,cap3,rfl⟩:=ownsRow_slice hrow
  have hwz:=hB.size
  have KD:=hiq (HD.out.later hB)
  clear hrow hB
  by_cases hlt:k<n
  · have hltI:(k:Int)<(n:Int):=by omega
    have hkT:k<T.n:=by have:=HN.out;omega
    have p0:=KD.out.ptr k hkT
    have zP:=KD.out.pz
    have TE:=hiq (fun (w':World) (h':DW w' (GB k) (T.M k) (T.S k))=>dentries_any (GB k) (T.M k) (T.S k) w' h')
    have hl1:=HL.out k
    have hl2:=HL8.out k
    have HE:=hiq (entsTo_snoc T k)
    generalize entsTo' T k=l1 at *
    generalize entsL (T.M k) (T.S k)=l2 at *
    go_wp2_with (first
     | (go_at_call 105;(with_reducible refine (TE.out _ (KD.out.g k hkT)).mono ?_);rintro e w3 ⟨v,rfl,hr3,hb3⟩;have C3:=hiq hb3;have R3:=hiq hr3;clear hr3 hb3)
     | (at_builtin;refine wpList_append_ents rfl _ _ rfl w.heap.size _ l1 rfl (ownsRow_later KR.out C3.out) _ wr.heap.size l2 rfl R3.out (by omega) (by have:=C3.out.size;omega) ?_;intro v' w4 hown4 hb4 _;have R4:=hiq hown4;have B4:=hiq hb4;clear hown4 hb4))
    go_roundw
    case rel=>exact ⟨k+1,by omega,by go_num,by rw [HE.out];exact R4.out,(KB.out.trans (C3.out.mono hwz)).trans B4.out⟩
    case measure=>simp [intOf];omega
  · obtain rfl:k=n:=by omega
    go_wp2
    go_ret
    exact ⟨_,rfl,KR.out,KB.out⟩
end
end Go.Proofs.YtcnkgiapidlbkaaGreatDoor
namespace Go.Proofs.YtcnkgiapidlbkaaGreatDoor
open Go.RowKit Go.Proofs
section
variable {w w':World} {Rb X gt tcap:Nat} {p0:PB} {pt:Nat→PB} {s:DuS} {tk:Bool} {L0:Int} {Lc:Nat→Int} {hs:Nat}
theorem DX.all {lo hi D:Nat} {T:TabS} {L:Int} (h:DX w lo hi D T L):Calls Tryz.prog 65 #[.pointer (some ⟨D,0,none⟩)] w fun e w' => ∃v,e = .returned v∧w'.ownsRow w.heap.size 41 3 v T.ents.length (entV T.ents)∧Below w.heap.size w w':=by
 obtain ⟨P,cap,GB,h⟩:=h
 exact dtall_any h
theorem all_len {s:DuS} (h:DuOK s):∀i,i≤s.k→(s.all i).length≤512*(i+1)
 | 0,_=>by
  show s.T.ents.length≤_
  have h1:=ents_length h.t
  have:=h.t.bounds
  omega
 | i+1,hi=>by
  have h0:=all_len h i (by omega)
  have h1:=ents_length (h.u i (by omega)).1
  have:=(h.u i (by omega)).1.bounds
  show (s.all i ++ (s.U i).ents).length≤_
  rw [List.length_append];omega
theorem DM.all (h:DM w Rb X gt tcap p0 pt s tk L0 Lc) (hok:DuOK s):Calls Tryz.prog 21 #[.pointer (some ⟨Rb,0,none⟩)] w fun e w' =>
 ∃v,e = .returned v∧w'.ownsRow w.heap.size 41 3 v (s.all s.k).length (entV (s.all s.k))∧Below w.heap.size w w':=by
 have hk2:s.k≤2:=by rcases h.r.v.hk with e|e <;> omega
 have HH:=hiq h
 have HAL:=hiq (all_len hok)
 have r0:=h.hd.cell 0
 obtain ⟨c0,c1,c2,c3,zX,fX⟩:=vmcells h.r.v
 have zD:=h.r.o.lt
 have zR:=h.hd.lt
 have A0:=hiq h.r.o.all
 have HUL:=hiq (show ∀i,i<s.k→(s.U i).ents.length≤512 from fun i hi=>by
  have h1:=ents_length (hok.u i hi).1
  have:=(hok.u i hi).1.bounds
  omega)
 have HSA:=hiq (show ∀i,s.all (i+1)=s.all i ++ (s.U i).ents from fun i=>rfl)
 rw [show s.T.ents=s.all 0 from rfl] at A0
 obtain ⟨k,hkk⟩:=exq s.k
 rw [←hkk] at c1 hk2 HAL HUL ⊢
 have HKK:=hiq hkk
 clear h hok c2 hkk
 go_enter Tryz.func21,Tryz.ntmps21
 go_upto_region 2 with (go_at_call 65;(with_reducible refine A0.out.mono ?_);rintro e w1 ⟨v1,rfl,hr1,hb1⟩;have R1:=hiq hr1;have B1:=hiq hb1;have H1:=HH.out.later hb1;have r1:=H1.hd.cell 0;have q1:=vmcells H1.r.v;have q10:=q1.1;have q11:=q1.2.1;have z1X:=q1.2.2.2.2.1;have zR1:=H1.hd.lt;clear hr1 hb1 H1 q1)
 rw [←HKK.out] at q11
 go_wp2
 go_loopw [22,3] (fun v22 v3 wr => ∃i:Nat,i≤k∧v22 = .int .i64 (i:Int)∧wr.ownsRow w.heap.size 41 3 v3 (s.all i).length (entV (s.all i))∧Below w.heap.size w wr) (fun v22 _ _=>k-(intOf v22).toNat)
 case atStart=>exact ⟨0,Nat.zero_le _,rfl,R1.out,B1.out⟩
 case round =>
  clear R1 B1 r1 q10 q11 z1X zR1
  obtain ⟨i,hi',rfl,hrow,hB⟩:=hrel
  have HROW:=hiq hrow
  have HB:=hiq hB
  have hzB:=hB.size
  by_cases hlt:i<k
  · have hik:i<s.k:=by rw [←HKK.out];exact hlt
    have HA:=hiq (HH.out.later hB)
    have l0:=HA.out.r.v.l i hik
    have zG:=HA.out.r.v.lt
    have zT:=(HA.out.r.t i hik).lt
    have AI:=hiq (HA.out.r.t i hik).all
    have hl1:=HAL.out i hi'
    have hl2:=HUL.out i hlt
    have HS1:=hiq (HSA.out i)
    have hiI:(i:Int)<(k:Int):=by omega
    obtain ⟨l1,hl1e⟩:=exq (s.all i)
    obtain ⟨l2,hl2e⟩:=exq ((s.U i).ents)
    rw [←hl1e] at hl1 HROW
    rw [←hl2e] at hl2 AI
    have HL1:=hiq hl1e
    have HL2:=hiq hl2e
    clear hrow hB hl1e hl2e hik
    go_wp2_with (first
     | (go_at_call 65;(with_reducible refine AI.out.mono ?_);rintro e w3 ⟨v,rfl,hr3,hb3⟩;have C3:=hiq hb3;have R3:=hiq hr3;clear hr3 hb3)
     | (at_builtin;refine wpList_append_ents rfl _ _ rfl w.heap.size _ l1 rfl (ownsRow_later HROW.out C3.out) _ wr.heap.size l2 rfl R3.out (by omega) (by have:=C3.out.size;omega) ?_;intro v' w4 hown4 hb4 _;have R4:=hiq hown4;have B4:=hiq hb4;clear hown4 hb4))
    go_roundw
    case rel=>exact ⟨i+1,by omega,by go_num,by rw [HS1.out,←HL1.out,←HL2.out];exact R4.out,(HB.out.trans (C3.out.mono hzB)).trans B4.out⟩
    case measure=>simp [intOf];omega
  · obtain rfl:i=k:=by omega
    clear hrow hB
    go_wp2
    go_ret
    exact ⟨_,rfl,HROW.out,HB.out⟩
end
attribute [local go_sem] neq_nilG eql_nilG
structure DMN (wr:World) (Rb X gn j:Nat) (dp:Int) (D0:Nat) (vt:Value) (pt:Nat→PB) (base:Nat):Prop where
 hd:Blk wr Rb 45 #[.pointer (some ⟨X,0,none⟩),.int .i64 ((j*gn:Nat):Int),.bool false]
 x:Blk wr X 73 #[.pointer (some ⟨D0,0,none⟩),vt,.int .i64 dp,.int .i64 0]
 r:wr.ownsRow base 70 1 vt j ((List.range j).map (fun i=>Value.pointer (some ⟨(pt i).D,0,none⟩)))
 t:∀i,i<j→DX wr (pt i).mid (pt i).hi (pt i).D (TabS.new gn) 0
 iv:∀i,i<j→base≤(pt i).mid
 up:∀i l,i<l→l<j→(pt i).hi≤(pt l).mid
 rb:∀b,vt.ownBlock=some b→∀i,i<j→b<(pt i).mid∨(pt i).hi≤b
 lo:X<base∧Rb<base∧X≠Rb
section
variable {w w' w1 w5:World} {Rb X gn j D0 base D:Nat} {dp:Int} {vt v5:Value} {pt:Nat→PB}
theorem DMN.later (h:DMN w Rb X gn j dp D0 vt pt base) (hb:Below w.heap.size w w'):DMN w' Rb X gn j dp D0 vt pt base :=
 ⟨h.hd.below hb h.hd.lt,h.x.below hb h.x.lt,ownsRow_later h.r hb,fun i hi=>(h.t i hi).later hb,h.iv,h.up,h.rb,h.lo⟩
theorem DMN.more {z:Nat} (h:DMN w Rb X gn j dp D0 vt pt base) (hbz:base≤w.heap.size) (hb1:Below w.heap.size w w1) (o:Obj) (ht:DX w1 w.heap.size w1.heap.size D (TabS.new gn) 0) (hg:Chg (fun b=>vt.ownBlock=some b) (w1.alloc o) w5)
 (hrow:w5.ownsRow base 70 1 v5 (j+1) ((List.range j).map (fun i=>Value.pointer (some ⟨(pt i).D,0,none⟩)) ++ [.pointer (some ⟨D,0,none⟩)])) (hfr:v5.ownBlock=vt.ownBlock∨v5.ownBlock=some z) (hz:w1.heap.size≤z) :
 DMN ((w5.setCell ⟨X,1,none⟩ v5).setCell ⟨Rb,1,none⟩ (.int .i64 (((j+1)*gn:Nat):Int))) Rb X gn (j+1) dp D0 v5 (upd pt j ⟨w.heap.size,w.heap.size,w1.heap.size,0,0,D⟩) base∧Chg (fun b=>b=X∨b=Rb∨base≤b) w ((w5.setCell ⟨X,1,none⟩ v5).setCell ⟨Rb,1,none⟩ (.int .i64 (((j+1)*gn:Nat):Int))):=by
 have hlo:=h.lo
 have hz1:=hb1.size
 have hbA:Below w.heap.size w (w1.alloc o):=hb1.alloc hz1 o
 have hown:∀b,vt.ownBlock=some b→base≤b∧b<w.heap.size:=fun b hb=>h.r.lt b hb
 have hXv:¬vt.ownBlock=some X∧¬vt.ownBlock=some Rb:=⟨fun hb=>by have:=hown _ hb;omega,fun hb=>by have:=hown _ hb;omega⟩
 have hC:Chg (fun b=>vt.ownBlock=some b∨b=X∨b=Rb) (w1.alloc o) ((w5.setCell ⟨X,1,none⟩ v5).setCell ⟨Rb,1,none⟩ (.int .i64 (((j+1)*gn:Nat):Int))) :=
  (((hg.mono (fun b _ e => .inl e)).setCell (.inl (.inr (.inl rfl))) v5).setCell (.inl (.inr (.inr rfl))) _)
 have hC5:Chg (fun b=>b=X∨b=Rb) w5 ((w5.setCell ⟨X,1,none⟩ v5).setCell ⟨Rb,1,none⟩ (.int .i64 (((j+1)*gn:Nat):Int))) :=
  (((Chg.refl _ w5).setCell (.inl (.inl rfl)) v5).setCell (.inl (.inr rfl)) _)
 refine ⟨⟨?_,?_,?_,fun i hi=>?_,fun i hi=>?_,fun i l hil hl=>?_,fun b hb i hi=>?_,hlo⟩,?_⟩
 · exact ((((h.hd.below hb1 h.hd.lt).alloc o).chg hg hXv.2).other hlo.2.2.symm 1 v5).set 1 _
 · exact ((((h.x.below hb1 h.x.lt).alloc o).chg hg hXv.1).set 1 v5).other hlo.2.2 1 _
 · have h1:=ownsRow_chgB hrow hC5 (fun b hb e=>by have:=(hrow.lt b hb).1;omega)
   rw [List.range_succ,List.map_append]
   have e1:(List.range j).map (fun i=>Value.pointer (some ⟨(upd pt j ⟨w.heap.size,w.heap.size,w1.heap.size,0,0,D⟩ i).D,0,none⟩))=(List.range j).map (fun i=>Value.pointer (some ⟨(pt i).D,0,none⟩)) :=
    List.map_congr_left fun i hi=>by rw [upd_other _ _ (Nat.ne_of_lt (List.mem_range.1 hi))]
   rw [e1]
   simp only [List.map_cons,List.map_nil,upd_same]
   exact h1
 · by_cases e:i=j
   · subst e
     rw [upd_same]
     refine (ht.later ((Below.refl _ _).alloc (Nat.le_refl _) o)).chg hC (fun b h1 h2 e=>?_)
     rcases e with e|e|e
     · have:=hown b e;omega
     · omega
     · omega
   · rw [upd_other _ _ e]
     have hij:i<j:=by omega
     refine ((h.t i hij).later hbA).chg hC (fun b h1 h2 e=>?_)
     have:=h.iv i hij
     rcases e with e|e|e
     · have:=h.rb b e i hij;omega
     · omega
     · omega
 · by_cases e:i=j
   · subst e;rw [upd_same];exact hbz
   · rw [upd_other _ _ e];exact h.iv i (by omega)
 · by_cases e:l=j
   · subst e
     rw [upd_same,upd_other _ _ (by omega)]
     exact (h.t i hil).hz
   · rw [upd_other _ _ e,upd_other _ _ (by omega)];exact h.up i l hil (by omega)
 · rcases hfr with e|e
   · rw [e] at hb
     by_cases e2:i=j
     · subst e2;rw [upd_same];exact .inl (hown b hb).2
     · rw [upd_other _ _ e2];exact h.rb b hb i (by omega)
   · rw [e] at hb
     obtain rfl:z=b:=Option.some.inj hb
     by_cases e2:i=j
     · subst e2;rw [upd_same];exact .inr hz
     · rw [upd_other _ _ e2]
       have:=(h.t i (by omega)).hz
       exact .inr (by omega)
 · exact (Chg.of_below hbA).trans (hC.mono (fun b _ e=>by
    rcases e with e|e|e
    · exact .inr (.inr (hown b e).1)
    · exact .inl e
    · exact .inr (.inl e)))
end
theorem dm_done {w:World} {p0:PB} {Rb X gt gcap j d gn D0 base z:Nat} {dp:Int} {T:TabS} {pt:Nat→PB} (h:DMN w Rb X gn j dp D0 (.slice (some ⟨gt,0,none⟩) j gcap) pt base) (ho:DX w p0.mid p0.hi p0.D T 0) (hD:D0=p0.D) (hkd:(j=1∧dp<0∧d=0)∨(j=2∧dp=(d:Int)∧d≤15)) (hoz:p0.hi≤z) (hz:z≤X∧X<Rb∧Rb<base) (hg:base≤gt) (hgl:gt<w.heap.size)
 (hl:∀i,i<j→w.cell? ⟨gt,i,none⟩=some (.pointer (some ⟨(pt i).D,0,none⟩))):DM w Rb X gt gcap p0 pt (DuS.newS j d gn T) false 0 (fun _=>0):=by
 have hx:∀b,ZD p0 pt j b→b≠X∧b≠gt∧b≠Rb:=fun b e=>by
  rcases e with ⟨e1,e2⟩ | ⟨i,hi,e1,e2⟩
  · omega
  · have h1:=h.iv i hi
    have h2:=h.rb gt rfl i hi
    omega
 have hxx:=h.x
 rw [hD] at hxx
 exact ⟨h.hd,⟨⟨⟨dp,fun e=>(by have e':j=2:=e;show dp=(d:Int);omega),hxx⟩,hl,hgl,by show j=1∨(j=2∧d≤15);omega⟩,ho,h.t,fun i hi=>by have:=h.iv i hi;omega,fun i l h1 h2=>h.up i l h1 h2,fun b e=>⟨(hx b e).1,(hx b e).2.1⟩⟩,⟨by omega,by omega,fun b e=>(hx b e).2.2⟩⟩
theorem cell1_newD (w:World) (T:TypeId) (x:Value):∀j u,[x][j]?=some u→(w.alloc (.cells #[x] T)).drew.cell? ((⟨w.heap.size,0,none⟩:Addr).add j)=some u:=cell1_new w x T
theorem dmnew_ok {w:World} {p0:PB} {k d gn:Nat} {T:TabS} (dp:Int) (hkd:(k=1∧dp<0∧d=0)∨(k=2∧dp=(d:Int)∧d≤15)) (hr:rightB (gn:Int)=true) (ho:DX w p0.mid p0.hi p0.D T 0) :
 Calls Tryz.prog 47 #[.pointer (some ⟨p0.D,0,none⟩),.int .i64 (gn:Int),.int .i64 dp] w fun e w' => ∃ (Rb X gt tcap:Nat) (pt:Nat→PB),e = .returned (.tuple #[.pointer (some ⟨Rb,0,none⟩),.int .i64 0])∧
  DM w' Rb X gt tcap p0 pt (DuS.newS k d gn T) false 0 (fun _=>0)∧w.heap.size≤Rb∧w.heap.size≤X∧w.heap.size≤gt∧(∀i,i<k→w.heap.size≤(pt i).mid)∧Below w.heap.size w w':=by
 obtain ⟨iD,hiD,hzD0,hzD1,hzD2⟩:=info_parts infoPD
 have ND:=hiq (fun (w':World)=>dtnew_ok gn hr w')
 have RG:=hiq (fun (w':World)=>refRight_any (gn:Int) w')
 rw [hr] at RG
 have HO:=hiq ho
 have hgb:=right_bd hr
 have hk12:k=1∨k=2:=by omega
 have hoz:=ho.hz
 have hoi:=ho.id
 have HKD:=hiq hkd
 obtain ⟨D0,hD0⟩:=exq p0.D
 rw [←hD0]
 replace hD0:=hiq hD0
 have d15:decide (15<dp)=false:=by simp;omega
 have h15:¬15<dp:=by omega
 have h0c:(dp≥0∧k=2)∨(¬dp≥0∧k=1):=by omega
 clear hr ho hkd
 go_enter Tryz.func47,Tryz.ntmps47
 go_upto_region 7 with (go_at_call 44;(with_reducible refine (RG.out _).mono ?_);rintro e w' ⟨rfl,rfl⟩)
 refine wp_at (fun w1 hw1=>?_)
 obtain ⟨X,hX⟩:=exq w.heap.size
 obtain ⟨Rb,hRb⟩:=exq (X+1)
 obtain ⟨base,hbase⟩:=exq (X+2)
 have hb1:Below w.heap.size w w1:=by rw [hw1];go_grown
 have hz1:w1.heap.size=base:=by rw [hw1,hbase,hX];simp
 have N1:=hiq (show DMN w1 Rb X gn 0 dp D0 (.slice none 0 0) (fun _=>p0) base from by
  refine ⟨?_,?_,⟨by simp,.inl ⟨rfl,rfl⟩⟩,fun i hi=>by omega,fun i hi=>by omega,fun i l h1 h2=>by omega,(fun b hb=>by cases hb),by omega⟩
  · rw [hw1,hRb,hX,Nat.zero_mul];exact Blk.new_at (by simp)
  · rw [hw1,hX];exact (Blk.new _ _ _).alloc _)
 have B1:=hiq hb1
 simp only [←hX,←hRb]
 replace hw1:=hiq hw1
 replace hX:=hiq hX
 replace hRb:=hiq hRb
 have hbX:w.heap.size≤X∧X<Rb∧Rb<base∧base≤w1.heap.size:=by have:=hX.out;have:=hRb.out;omega
 obtain ⟨hbX1,hbX2,hbX3,hbX4⟩:=hbX
 replace hbase:=hiq hbase
 clear hb1 d15 h15 hz1
 rcases h0c with ⟨h0,hk2⟩ | ⟨h0,hk1⟩
 · have hd0:decide (dp≥0)=true:=decide_eq_true h0
   have HK2:=hiq (show k=2 from hk2)
   clear hk2
   go_wp2
   go_loopg [10] k (fun gk v10 wr => ∃ (j:Nat) (vt:Value) (pt:Nat→PB),j+gk=k∧v10 = .int .i64 (j:Int)∧DMN wr Rb X gn j dp D0 vt pt base∧Below w.heap.size w wr∧base≤wr.heap.size)
   case atStart=>exact ⟨0,_,_,by omega,rfl,N1.out,B1.out,by omega⟩
   case round =>
    clear N1 B1
    obtain ⟨j,vt,pt,hj,rfl,hN,hB,hbw⟩:=hrel
    have KN:=hiq hN
    have KB:=hiq hB
    obtain ⟨ta,tcap,rfl⟩:=ownsRow_slice hN.r
    clear hN hB
    by_cases hlt:j<k
    · have hltI:(j:Int)<2:=by have:=HK2.out;omega
      have hXv2:¬ (Value.slice ta j tcap).ownBlock=some X:=fun e=>by have:=(KN.out.r.lt X e).1;omega
      have hXv1:¬ (Value.slice ta j tcap).ownBlock=some Rb:=fun e=>by have:=(KN.out.r.lt Rb e).1;omega
      have hXR:X≠Rb:=by omega
      obtain ⟨jg,hjg⟩:∃jg:Int,jg=((j*gn:Nat):Int):=⟨_,rfl⟩
      have hjgb:0≤jg∧jg≤128:=by
       have h1:j*gn≤2*64:=Nat.mul_le_mul (by omega) hgb.2
       omega
      have HJG:=hiq (show (((j+1)*gn:Nat):Int)=jg+(gn:Int) from by rw [Nat.add_mul,Nat.one_mul,hjg];omega)
      have hw2:IntKind.i64.wrap (jg+(gn:Int))=jg+(gn:Int):=by rw [IntKind.wrap_i64];omega
      have HJ0:=hiq hjg.symm
      clear hjg
      go_upto_region 13 with (go_at_call 45;(with_reducible refine (ND.out _).mono ?_);rintro e w4 ⟨D,P1,cap1,GB1,rfl,hdt,hb4⟩;have T4:=hiq (show DX w4 wr.heap.size w4.heap.size D (TabS.new gn) 0 from ⟨P1,cap1,GB1,hdt⟩);have B4:=hiq hb4;have K4:=hiq (KN.out.later hb4);have r4:=K4.out.hd.cell 0;have x41:=K4.out.x.cell 1;have zr4:=K4.out.hd.lt;have zx4:=K4.out.x.lt;have fx4:=fun j=>K4.out.x.frozen j;have fr4:=fun j=>K4.out.hd.frozen j;have r41:w4.cell? ⟨Rb,1,none⟩=some (.int .i64 jg):=(K4.out.hd.cell 1).trans (by rw [←HJ0.out];rfl);have z4:=hb4.size;clear hdt hb4)
      have hcd:=Chg.drewAlloc (fun b=>(Value.slice ta j tcap).ownBlock=some b) w4 (.cells #[.pointer (some ⟨D,0,none⟩)] 70)
      refine wp_region_seq (fun b=>(Value.slice ta j tcap).ownBlock=some b) #[⟨0,0,1099511627776,256,0⟩,⟨1,1,2199023255552,1099511627776,0⟩,⟨2,3,4398046511104,2199023255552,0⟩,⟨4,7,8796093022208,4398046511104,1⟩,⟨0,0,17592186044416,256,0⟩,⟨16,16,35184372088832,17592186044416,0⟩,⟨32,48,70368744177664,35184372088832,0⟩,⟨64,112,140737488355328,70368744177664,1⟩,⟨128,240,281474976710656,140737488355328,0⟩,⟨256,496,562949953421312,281474976710656,0⟩,⟨512,1008,1125899906842624,562949953421312,1⟩,⟨0,0,2251799813685248,2048,0⟩,⟨2048,2048,4503599627370496,2251799813685248,2⟩,⟨5120,8176,9007199254740992,5629499534213120,2⟩,⟨16383,16383,18014398509481984,8796093022208,0⟩,⟨32767,32767,36028797018963968,18014398509481984,0⟩,⟨49151,65535,0,45035996273704960,3⟩] 1160 [(0,0),(1,0),(2,0),(3,1),(4,0),(5,0),(6,0),(7,1),(8,0),(9,0),(10,1),(11,0),(12,2),(13,2),(14,0),(15,0),(16,3)] (by kernel_rfl) (by kernel_rfl) (by kernel_rfl) (by kernel_rfl) (by kernel_rfl) (by kernel_rfl) (fun c a d v w h=>by cases d <;> exact h) ?_
      refine zqC ?_;refine zqC ?_;refine zqC ?_
      refine zq1 Tryz.underlying43 ?_
      try refine zqP ?_;refine zqC ?_;refine zqC ?_;refine zqC ?_
      refine zq1 Tryz.underlying43 ?_
      try refine zqP ?_;refine zqC ?_;refine zqC ?_
      refine zq1 Tryz.underlying71 ?_
      try refine zqP ?_;refine zqC ?_
      refine zqD fun K hK=>?_;go_wp2_with (fail);refine hkA hK (h:=?_);clear hK K
      try refine zqP ?_
      refine zqD fun K hK=>?_;(refine wp_append_own2 _ _ 71 rfl base 70 iD (.pointer none) 1 8 Tryz.underlying71 hiD hzD0 hzD1 hzD2 rfl (by decide) _ _ _ rfl (ownsRow_later K4.out.r ((Below.refl _ _).alloc (Nat.le_refl _) _).drew) ⟨w4.heap.size,0,none⟩ 1 1 [.pointer (some ⟨D,0,none⟩)] rfl rfl (cell1_newD w4 _ _) (by simp [Value.oneCell']) (by unfold maxLen;omega) (by omega) (by simp;omega) (by decide) ?_;intro v5 w5 hown5 hgrow5 hfr5;obtain ⟨g5,gcap5,rfl⟩:=ownsRow_succ hown5;have hcg5:Chg (fun b=>(Value.slice ta j tcap).ownBlock=some b) (World.drew (w4.alloc (.cells #[.pointer (some ⟨D,0,none⟩)] 70))) w5:=Chg.of_grown hgrow5;have R5:=hiq hown5;have F5:=hiq hfr5;have CG5:=hiq hcg5;have K5x:=(K4.out.x.alloc (.cells #[.pointer (some ⟨D,0,none⟩)] 70)).drew.chg hcg5 hXv2;have K5r:=(K4.out.hd.alloc (.cells #[.pointer (some ⟨D,0,none⟩)] 70)).drew.chg hcg5 hXv1;have x51:=K5x.cell 1;have r51:w5.cell? ⟨Rb,1,none⟩=some (.int .i64 jg):=(K5r.cell 1).trans (by rw [←HJ0.out];rfl);have r50:=K5r.cell 0;have zx5:=K5x.lt;have zr5:=K5r.lt;have fx5:=fun j=>K5x.frozen j;have fr5:=fun j=>K5r.frozen j;clear hown5 hgrow5 hfr5 K5x K5r);refine hkA hK (h:=?_);clear hK K
      try refine zqP ?_;refine zqC ?_;refine zqC ?_
      refine zqE fun K hK=>?_;go_wp2_with (fail);refine hK.out _ _ ?_;clear hK K
      try refine zqP ?_
      refine seq_nil ?_
      go_wp2
      go_roundg (gk-1)
      case measure=>omega
      case rel =>
       obtain ⟨m1,m2⟩:=KN.out.more (w1:=w4.drew) hbw B4.out.drew (.cells #[.pointer (some ⟨D,0,none⟩)] 70) (T4.out.later (Below.refl _ _).drew) CG5.out R5.out F5.out (by simp)
       rw [HJG.out] at m1 m2
       exact ⟨j+1,_,_,by omega,by go_num,m1,KB.out.trans (m2.below KB.out.size (fun b hb e=>by omega)),Nat.le_trans hbw m2.size⟩
    · obtain rfl:j=k:=by omega
      obtain ⟨gt,gcap,cur,hvb,hbg,hgB,hcell⟩:=row_ptrsG KN.out.r (by omega)
      cases hvb
      have hnl:¬ ((j:Int)<2):=by have:=HK2.out;omega
      have HRES:=hiq (dm_done KN.out (HO.out.later KB.out) hD0.out HKD.out hoz (by omega) hbg hgB.lt hcell)
      have hgz:w.heap.size≤gt:=by omega
      clear hcell hgB
      go_wp2
      go_ret2
      first|exact ⟨Rb,rfl,X,gt,tcap,pt,HRES.out,by omega,by omega,by omega,fun i hi=>by have:=KN.out.iv i hi;omega,KB.out⟩|exact ⟨Rb,X,gt,tcap,pt,rfl,HRES.out,by omega,by omega,by omega,fun i hi=>by have:=KN.out.iv i hi;omega,KB.out⟩
 · have hd0:decide (dp≥0)=false:=decide_eq_false (by omega)
   have hd1:¬0≤dp:=by omega
   have HK2:=hiq (show k=1 from hk1)
   clear hk1
   go_wp2
   go_loopg [10] k (fun gk v10 wr => ∃ (j:Nat) (vt:Value) (pt:Nat→PB),j+gk=k∧v10 = .int .i64 (j:Int)∧DMN wr Rb X gn j dp D0 vt pt base∧Below w.heap.size w wr∧base≤wr.heap.size)
   case atStart=>exact ⟨0,_,_,by omega,rfl,N1.out,B1.out,by omega⟩
   case round =>
    clear N1 B1
    obtain ⟨j,vt,pt,hj,rfl,hN,hB,hbw⟩:=hrel
    have KN:=hiq hN
    have KB:=hiq hB
    obtain ⟨ta,tcap,rfl⟩:=ownsRow_slice hN.r
    clear hN hB
    by_cases hlt:j<k
    · have hltI:(j:Int)<1:=by have:=HK2.out;omega
      have hXv2:¬ (Value.slice ta j tcap).ownBlock=some X:=fun e=>by have:=(KN.out.r.lt X e).1;omega
      have hXv1:¬ (Value.slice ta j tcap).ownBlock=some Rb:=fun e=>by have:=(KN.out.r.lt Rb e).1;omega
      have hXR:X≠Rb:=by omega
      obtain ⟨jg,hjg⟩:∃jg:Int,jg=((j*gn:Nat):Int):=⟨_,rfl⟩
      have hjgb:0≤jg∧jg≤128:=by
       have h1:j*gn≤2*64:=Nat.mul_le_mul (by omega) hgb.2
       omega
      have HJG:=hiq (show (((j+1)*gn:Nat):Int)=jg+(gn:Int) from by rw [Nat.add_mul,Nat.one_mul,hjg];omega)
      have hw2:IntKind.i64.wrap (jg+(gn:Int))=jg+(gn:Int):=by rw [IntKind.wrap_i64];omega
      have HJ0:=hiq hjg.symm
      clear hjg
      go_upto_region 13 with (go_at_call 45;(with_reducible refine (ND.out _).mono ?_);rintro e w4 ⟨D,P1,cap1,GB1,rfl,hdt,hb4⟩;have T4:=hiq (show DX w4 wr.heap.size w4.heap.size D (TabS.new gn) 0 from ⟨P1,cap1,GB1,hdt⟩);have B4:=hiq hb4;have K4:=hiq (KN.out.later hb4);have r4:=K4.out.hd.cell 0;have x41:=K4.out.x.cell 1;have zr4:=K4.out.hd.lt;have zx4:=K4.out.x.lt;have fx4:=fun j=>K4.out.x.frozen j;have fr4:=fun j=>K4.out.hd.frozen j;have r41:w4.cell? ⟨Rb,1,none⟩=some (.int .i64 jg):=(K4.out.hd.cell 1).trans (by rw [←HJ0.out];rfl);have z4:=hb4.size;clear hdt hb4)
      have hcd:=Chg.drewAlloc (fun b=>(Value.slice ta j tcap).ownBlock=some b) w4 (.cells #[.pointer (some ⟨D,0,none⟩)] 70)
      refine wp_region_seq (fun b=>(Value.slice ta j tcap).ownBlock=some b) #[⟨0,0,1099511627776,256,0⟩,⟨1,1,2199023255552,1099511627776,0⟩,⟨2,3,4398046511104,2199023255552,0⟩,⟨4,7,8796093022208,4398046511104,1⟩,⟨0,0,17592186044416,256,0⟩,⟨16,16,35184372088832,17592186044416,0⟩,⟨32,48,70368744177664,35184372088832,0⟩,⟨64,112,140737488355328,70368744177664,1⟩,⟨128,240,281474976710656,140737488355328,0⟩,⟨256,496,562949953421312,281474976710656,0⟩,⟨512,1008,1125899906842624,562949953421312,1⟩,⟨0,0,2251799813685248,2048,0⟩,⟨2048,2048,4503599627370496,2251799813685248,2⟩,⟨5120,8176,9007199254740992,5629499534213120,2⟩,⟨16383,16383,18014398509481984,8796093022208,0⟩,⟨32767,32767,36028797018963968,18014398509481984,0⟩,⟨49151,65535,0,45035996273704960,3⟩] 1160 [(0,0),(1,0),(2,0),(3,1),(4,0),(5,0),(6,0),(7,1),(8,0),(9,0),(10,1),(11,0),(12,2),(13,2),(14,0),(15,0),(16,3)] (by kernel_rfl) (by kernel_rfl) (by kernel_rfl) (by kernel_rfl) (by kernel_rfl) (by kernel_rfl) (fun c a d v w h=>by cases d <;> exact h) ?_
      refine zqC ?_;refine zqC ?_;refine zqC ?_
      refine zq1 Tryz.underlying43 ?_
      try refine zqP ?_;refine zqC ?_;refine zqC ?_;refine zqC ?_
      refine zq1 Tryz.underlying43 ?_
      try refine zqP ?_;refine zqC ?_;refine zqC ?_
      refine zq1 Tryz.underlying71 ?_
      try refine zqP ?_;refine zqC ?_
      refine zqD fun K hK=>?_;go_wp2_with (fail);refine hkA hK (h:=?_);clear hK K
      try refine zqP ?_
      refine zqD fun K hK=>?_;(refine wp_append_own2 _ _ 71 rfl base 70 iD (.pointer none) 1 8 Tryz.underlying71 hiD hzD0 hzD1 hzD2 rfl (by decide) _ _ _ rfl (ownsRow_later K4.out.r ((Below.refl _ _).alloc (Nat.le_refl _) _).drew) ⟨w4.heap.size,0,none⟩ 1 1 [.pointer (some ⟨D,0,none⟩)] rfl rfl (cell1_newD w4 _ _) (by simp [Value.oneCell']) (by unfold maxLen;omega) (by omega) (by simp;omega) (by decide) ?_;intro v5 w5 hown5 hgrow5 hfr5;obtain ⟨g5,gcap5,rfl⟩:=ownsRow_succ hown5;have hcg5:Chg (fun b=>(Value.slice ta j tcap).ownBlock=some b) (World.drew (w4.alloc (.cells #[.pointer (some ⟨D,0,none⟩)] 70))) w5:=Chg.of_grown hgrow5;have R5:=hiq hown5;have F5:=hiq hfr5;have CG5:=hiq hcg5;have K5x:=(K4.out.x.alloc (.cells #[.pointer (some ⟨D,0,none⟩)] 70)).drew.chg hcg5 hXv2;have K5r:=(K4.out.hd.alloc (.cells #[.pointer (some ⟨D,0,none⟩)] 70)).drew.chg hcg5 hXv1;have x51:=K5x.cell 1;have r51:w5.cell? ⟨Rb,1,none⟩=some (.int .i64 jg):=(K5r.cell 1).trans (by rw [←HJ0.out];rfl);have r50:=K5r.cell 0;have zx5:=K5x.lt;have zr5:=K5r.lt;have fx5:=fun j=>K5x.frozen j;have fr5:=fun j=>K5r.frozen j;clear hown5 hgrow5 hfr5 K5x K5r);refine hkA hK (h:=?_);clear hK K
      try refine zqP ?_;refine zqC ?_;refine zqC ?_
      refine zqE fun K hK=>?_;go_wp2_with (fail);refine hK.out _ _ ?_;clear hK K
      try refine zqP ?_
      refine seq_nil ?_
      go_wp2
      go_roundg (gk-1)
      case measure=>omega
      case rel =>
       obtain ⟨m1,m2⟩:=KN.out.more (w1:=w4.drew) hbw B4.out.drew (.cells #[.pointer (some ⟨D,0,none⟩)] 70) (T4.out.later (Below.refl _ _).drew) CG5.out R5.out F5.out (by simp)
       rw [HJG.out] at m1 m2
       exact ⟨j+1,_,_,by omega,by go_num,m1,KB.out.trans (m2.below KB.out.size (fun b hb e=>by omega)),Nat.le_trans hbw m2.size⟩
    · obtain rfl:j=k:=by omega
      obtain ⟨gt,gcap,cur,hvb,hbg,hgB,hcell⟩:=row_ptrsG KN.out.r (by omega)
      cases hvb
      have hnl:¬ ((j:Int)<1):=by have:=HK2.out;omega
      have HRES:=hiq (dm_done KN.out (HO.out.later KB.out) hD0.out HKD.out hoz (by omega) hbg hgB.lt hcell)
      have hgz:w.heap.size≤gt:=by omega
      clear hcell hgB
      go_wp2
      go_ret2
      first|exact ⟨Rb,rfl,X,gt,tcap,pt,HRES.out,by omega,by omega,by omega,fun i hi=>by have:=KN.out.iv i hi;omega,KB.out⟩|exact ⟨Rb,X,gt,tcap,pt,rfl,HRES.out,by omega,by omega,by omega,fun i hi=>by have:=KN.out.iv i hi;omega,KB.out⟩
theorem dmnew_bad (D:Nat) (g dp:Int) (hbad:15<dp∨rightB g=false) (w:World):Calls Tryz.prog 47 #[.pointer (some ⟨D,0,none⟩),.int .i64 g,.int .i64 dp] w fun e w'=>e = .returned (.tuple #[.pointer none,.int .i64 1])∧w=w':=by
 by_cases h15:15<dp
 · have d15:decide (15<dp)=true:=decide_eq_true h15
   clear hbad
   go_enter Tryz.func47,Tryz.ntmps47
   go_wp2
   go_ret2
   exact ⟨rfl,rfl⟩
 · have d15:decide (15<dp)=false:=decide_eq_false h15
   have hr:rightB g=false:=by rcases hbad with e|e;exact absurd e h15;exact e
   have RG:=hiq (fun (w':World)=>refRight_any g w')
   rw [hr] at RG
   clear hbad hr
   go_enter Tryz.func47,Tryz.ntmps47
   go_wp2_with (go_at_call 44;(with_reducible refine (RG.out _).mono ?_);rintro e w' ⟨rfl,rfl⟩)
   go_ret2
   exact ⟨rfl,rfl⟩
end Go.Proofs.YtcnkgiapidlbkaaGreatDoor
namespace Go.Proofs.YtcnkgiapidlbkaaGreatDoor
open Go.RowKit Go.Proofs
attribute [local go_sem] neq_nilG eql_nilG
theorem looks_n {T:TabS} (hT:TGood T) (key:Int) (h:Nat):T.looks key h≤64:=by
 have h1:=(lookN_spec (fun j=>T.stop key h (T.wk h j)) T.n 0).2.1
 have h2:=hT.bounds
 unfold TabS.looks;omega
structure MD13 (w' w:World) (a:Nat→Nat) (Rb X gt tcap:Nat) (p0:PB) (pt:Nat→PB) (s:DuS) (E:Nat→Addr) (w0:World):Prop where
 v:DuV w' a s false E w0
 m:DM w' Rb X gt tcap p0 pt s false 0 (fun _=>0)
 ap:∀b,DuX a s b→w.heap.size≤b∧¬ (DMX Rb X p0 pt s.k b∨b=gt)
 z:∀b,DMX Rb X p0 pt s.k b∨b=gt→w.heap.size≤b∧b<w'.heap.size
 b:Below w.heap.size w w'
theorem md_mk {w w1 w2 w0 wA:World} {a:Nat→Nat} {Rb X gt tcap bcap k d gn:Nat} {p0:PB} {pt:Nat→PB} {T:TabS} {E:Nat→Addr} (hk:k=1∨(k=2∧d≤15)) (hr:rightB (gn:Int)=true) (hA:DuA w1 a (DuS.newS k d gn T) bcap false E w0) (h1:a 1=p0.B) (h2:a 2=p0.Q) (hp:wA.heap.size≤p0.lo∧p0.lo≤p0.B∧p0.B<p0.mid∧p0.lo≤p0.Q∧p0.Q<p0.mid∧p0.mid≤p0.hi∧p0.hi≤w.heap.size)
 (hge:∀x,Used k false x→x≠1→x≠2→w.heap.size≤a x) (hb1:Below w.heap.size w w1) (hM:DM w2 Rb X gt tcap p0 pt (DuS.newS k d gn T) false 0 (fun _=>0)) (hRb:w1.heap.size≤Rb) (hX:w1.heap.size≤X) (hg:w1.heap.size≤gt) (hpt:∀i,i<k→w1.heap.size≤(pt i).mid) (hb2:Below w1.heap.size w1 w2) (hbA:Below wA.heap.size wA w) :
 MD13 w2 wA a Rb X gt tcap p0 pt (DuS.newS k d gn T) E w0:=by
 have hb0:¬ (DuS.newS k d gn T).bare=0:=by have:=hA.hb;omega
 have hz1:=hb1.size
 have hz2:=hb2.size
 have hzA:=hbA.size
 have hv1:DuV w1 a (DuS.newS k d gn T) false E w0:=⟨DuOK.newS hk hr hA.t.good,.inl ⟨bcap,hA⟩⟩
 refine ⟨hv1.later hb2,hM,fun b hb=>?_,fun b hb=>?_,(hbA.trans (hb1.mono hzA)).trans (hb2.mono (by omega))⟩
 · have hlt:=(hv1.xlt hb).1
   obtain ⟨x,hx,rfl⟩:=hb
   rw [decide_eq_false hb0] at hx
   have hcl:(a x=p0.B∨a x=p0.Q)∨w.heap.size≤a x:=by
    by_cases e1:x=1
    · rw [e1,h1];exact .inl (.inl rfl)
    · by_cases e2:x=2
      · rw [e2,h2];exact .inl (.inr rfl)
      · exact .inr (hge x hx e1 e2)
   refine ⟨by omega,?_⟩
   rintro ((e|e|(e | ⟨i,hi,e⟩))|e)
   · omega
   · omega
   · omega
   · have:=hpt i hi;omega
   · omega
 · rcases hb with (e|e|(e | ⟨i,hi,e⟩))|e
   · have:=hM.hd.lt;omega
   · have:=hM.r.v.blt;omega
   · omega
   · have:=hpt i hi;have:=(hM.r.t i hi).hz;omega
   · have:=hM.r.v.lt;omega
section
variable (g gn n1 n2:Nat)
theorem made13_any (new depth:Int) (b1 o1 cap1 cap2:Nat) (a2:Option Addr) (G:Nat→Nat) (f2:Nat→Nat→Int) (E:Nat→Addr) (w0 w:World) (k1:1≤n1) (k2:n1≤60) (k3:n2≤60) (k5:rightB (g:Int)=true) (he:ErrsAre w0 E) (hT:Tab64 w0) (hw:Below w0.heap.size w0 w)
 (hb1z:b1<w0.heap.size) (hG:∀i,i<n1→G i<18446744073709551616) (hc1:∀w',Below w0.heap.size w0 w'→∀i,i<n1→w'.cell? ⟨b1,o1+i,none⟩=some (.int .u64 (G i:Int)))
 (hx2:n2≠0→∃b off,a2=some ⟨b,off,none⟩∧b<w0.heap.size∧∀w',Below w0.heap.size w0 w'→∀i,i<n2→∀j,j<1→w'.cell? ⟨b,off+(i*1+j),none⟩=some (.int .i64 (f2 i j))) :
 Calls Tryz.prog 7 #[.agg (caseD (g:Int) new depth (.slice (some ⟨b1,o1,none⟩) n1 cap1) (.slice a2 n2 cap2))] w fun e w' =>
  (¬ (rightB new=true∧depth≤15)∧e = .returned (.tuple #[.pointer none,.pointer none,.bool true])∧Below w.heap.size w w')∨
  ((rightB new=true∧depth≤15)∧∃ (a:Nat→Nat) (Rb X gt tcap k d:Nat) (p0:PB) (pt:Nat→PB) (T:TabS),e = .returned (.tuple #[.pointer (some ⟨a 0,0,none⟩),.pointer (some ⟨Rb,0,none⟩),.bool true])∧(k=1∨(k=2∧d≤15))∧TFun T (hashH n1 G)∧T.n=g∧MD13 w' w a Rb X gt tcap p0 pt (DuS.newS k d new.toNat T) E w0):=by
 have hgb:=right_bd k5
 have HE:=hiq he
 have HEC:=hiq (show EC w0 E [1,2,4,5,14,16] from he.ec.sub (by decide))
 have HT:=hiq hT
 have HW:=hiq hw
 have HG:=hiq hG
 have HC:=hiq hc1
 have HX2:=hiq hx2
 have HK5:=hiq k5
 have HHb:=hiq (show ∀q,hashH n1 G q<18446744073709551616 from hashH_lt k1 hG)
 have hwz:=hw.size
 obtain ⟨H,hH⟩:=exq (hashH n1 G)
 have HH:=hiq (show ∀x,x<n1→H (x:Int)=G x from fun x hx=>by rw [hH];exact hashH_in hx)
 rw [←hH] at HHb ⊢
 clear hH
 have NT:=hiq (fun (w':World)=>tnew_ok g HK5.out w')
 have ND:=hiq (fun (w':World)=>dtnew_ok g HK5.out w')
 have EN:=hiq (fun (q val:Int) (w':World) (hw':Below w0.heap.size w0 w')=>entry13_any (g:Int) new depth (.slice a2 n2 cap2) b1 o1 n1 cap1 k1 (by omega) G q val w' (Nat.lt_of_lt_of_le hb1z hw'.size) (HC.out w' hw') rfl)
 have CB:=hiq (Blk.new w 25 #[.int .i64 (g:Int),.int .i64 new,.int .i64 depth,.slice (some ⟨b1,o1,none⟩) n1 cap1,.slice a2 n2 cap2])
 have B1:=hiq (show Below w.heap.size w (w.alloc (.cells #[.int .i64 (g:Int),.int .i64 new,.int .i64 depth,.slice (some ⟨b1,o1,none⟩) n1 cap1,.slice a2 n2 cap2] 25)) from (Below.refl _ _).alloc (Nat.le_refl _) _)
 unfold caseD at EN ⊢
 clear he hT hw hG hc1 hx2 k5
 go_enter Tryz.func7,Tryz.ntmps7
 go_upto_region 5 with (first
  | (go_at_call 39;(with_reducible refine (NT.out _).mono ?_);rintro e w3 ⟨O,Q,rfl,hO,hQ,ht,hb3⟩;have T3:=hiq ht;have B3:=hiq hb3;have C3:=hiq (CB.out.below hb3 CB.out.lt);have c3:=cased_cells C3.out;have c30:=c3.1;have zc3:=C3.out.lt;have O3:=hiq hO;have Q3:=hiq hQ;clear ht hb3 c3 hO hQ)
  | (go_at_call 45;(with_reducible refine (ND.out _).mono ?_);rintro e w4 ⟨D,P1,cP,GB1,rfl,hdt,hb4⟩;have P4:=hiq (PR.new (w0:=w0) HK5.out HEC.out HT.out (HW.out.trans (B1.out.mono HW.out.size)) T3.out B3.out O3.out Q3.out hdt hb4);have B4:=hiq (B1.out.trans ((B3.out.trans (hb4.mono B3.out.size)).mono (by simp)));have C4:=hiq (C3.out.below hb4 C3.out.lt);have z3:=B3.out.size;have z4:=hb4.size;clear hdt hb4))
 obtain ⟨p,hp⟩:∃p:PB,p=⟨(w.alloc (.cells #[.int .i64 (g:Int),.int .i64 new,.int .i64 depth,.slice (some ⟨b1,o1,none⟩) n1 cap1,.slice a2 n2 cap2] 25)).heap.size,w3.heap.size,w4.heap.size,O,Q,D⟩:=⟨_,rfl⟩
 rw [←hp] at P4
 have hpo:w.heap.size<p.lo∧p.hi≤w4.heap.size:=by rw [hp];simp
 have HPB:=hiq (show O=p.B∧Q=p.Q∧D=p.D by rw [hp];exact ⟨rfl,rfl,rfl⟩)
 obtain ⟨e1,e2,e3⟩:=HPB.out
 rw [e1,e3]
 clear e1 e2 e3
 replace hp:=hiq hp
 obtain ⟨C,hC⟩:=exq w.heap.size
 have hCp:C<p.lo:=by omega
 have cc:=cased_cells C4.out
 rw [←hC] at cc C4 ⊢
 obtain ⟨r0,r1,r2,r3,r4,zC⟩:=cc
 have hCw:w.heap.size≤C:=by omega
 replace hC:=hiq hC
 clear C3 c30 zc3 B1 CB NT ND T3 B3 O3 Q3 z3 z4
 go_wp2
 go_loopw [35] (fun v35 wr => ∃ (x:Nat) (T:TabS) (L:Int),x≤n2∧v35 = .int .i64 (x:Int)∧PR wr p T T L E w0∧TFun T H∧T.n=g∧0≤L∧L≤64*(x:Int)∧Below w.heap.size w wr∧Blk wr C 25 #[.int .i64 (g:Int),.int .i64 new,.int .i64 depth,.slice (some ⟨b1,o1,none⟩) n1 cap1,.slice a2 n2 cap2]∧w4.heap.size≤wr.heap.size) (fun v35 _=>n2-(intOf v35).toNat)
 case atStart=>exact ⟨0,_,_,Nat.zero_le _,rfl,P4.out,TFun.new HK5.out H,rfl,Int.le_refl _,by omega,B4.out,C4.out,Nat.le_refl _⟩
 case round =>
  clear P4 B4 C4 r0 r1 r2 r3 r4 zC
  obtain ⟨x,T,L,hx,rfl,hP,hF,hTn,hL0,hL1,hB,hCb,hw4⟩:=hrel
  have KP:=hiq hP
  have KF:=hiq hF
  have KN:=hiq hTn
  have KB:=hiq hB
  have KC:=hiq hCb
  obtain ⟨r0,r1,r2,r3,r4,zC⟩:=cased_cells hCb
  have hz:=hB.size
  clear hP hF hTn hB hCb
  by_cases hlt:x<n2
  · have hxI:(x:Int)<(n2:Int):=by omega
    have B0:=hiq (HW.out.trans (KB.out.mono HW.out.size))
    obtain ⟨kb,ko,rfl,hkz,hkc⟩:=HX2.out (by omega)
    have kc:wr.cell? ⟨kb,ko+x,none⟩=some (.int .i64 (f2 x 0)):=by simpa using hkc wr B0.out x hlt 0 (by decide)
    have hkz2:kb<wr.heap.size:=Nat.lt_of_lt_of_le hkz B0.out.size
    have EQ:=hiq (EN.out (f2 x 0) 5)
    have hxk:=keyI_lt (f2 x 0) n1 k1
    generalize keyI (f2 x 0) n1=xk at *
    generalize f2 x 0=q at *
    have hGx:=HG.out xk hxk
    have hHx:=HH.out xk hxk
    obtain ⟨h,hh⟩:=exq (G xk)
    rw [←hh] at hGx hHx EQ
    have HF2:=hiq (show TFun (T.putT (xk:Int) 5 h) H from by rw [←hHx];exact KF.out.putT _ _ (HHb.out _))
    have HN2:=hiq (show (T.putT (xk:Int) 5 h).n=g from by rw [putT_nn];exact KN.out)
    have hlk:=looks_n KF.out.good (xk:Int) h
    have PU:=hiq (fun (w':World) (h':PR w' p T T L E w0)=>h'.put (xk:Int) 5 h hGx)
    have PV:=hiq (fun (w':World) (h':PR w' p (T.putT (xk:Int) 5 h) T L E w0)=>h'.put2 (by omega) (xk:Int) 5 h hGx)
    generalize T.putB (xk:Int) h=pb at *
    generalize errN E (T.putN (xk:Int) h)=pe at *
    generalize T.putN (xk:Int) h=pn at *
    clear hkc hkz hh hHx
    go_wp2_with (first
     | (go_at_call 8;(with_reducible refine (EQ.out _ B0.out).mono ?_);rintro e w5 ⟨rfl,hb5⟩;have P5:=hiq (KP.out.later hb5);have B5:=hiq (KB.out.trans (hb5.mono hz));have C5:=hiq (KC.out.below hb5 KC.out.lt);have z5:=hb5.size)
     | (go_at_call 40;(with_reducible refine (PU.out _ P5.out).mono ?_);rintro e w6 ⟨rfl,hp6,hc6⟩;have P6:=hiq hp6;have B6:=hiq (B5.out.trans (hc6.below B5.out.size (fun b hb e=>by omega)));have C6:=hiq (C5.out.chg hc6 (fun e=>by omega));have z6:=hc6.size;have c6:=cased_cells C6.out;have c60:=c6.1;have c61:=c6.2.1;have c62:=c6.2.2.1;have c63:=c6.2.2.2.1;have c64:=c6.2.2.2.2.1;have zc6:=C6.out.lt;clear hp6 hc6 c6 r0 r1 r2 r3 r4 zC)
     | (go_at_call 8;(with_reducible refine (EQ.out _ (HW.out.trans (B6.out.mono HW.out.size))).mono ?_);rintro e w7 ⟨rfl,hb7⟩;have P7:=hiq (P6.out.later hb7);have B7:=hiq (B6.out.trans (hb7.mono B6.out.size));have C7:=hiq (C6.out.below hb7 C6.out.lt);have z7:=hb7.size)
     | (go_at_call 46;(with_reducible refine (PV.out _ P7.out).mono ?_);rintro e w8 ⟨rfl,hp8,hc8⟩;have P8:=hiq hp8;have B8:=hiq (B7.out.trans (hc8.below B7.out.size (fun b hb e=>by omega)));have C8:=hiq (C7.out.chg hc8 (fun e=>by omega));have z8:=hc8.size;clear hp8 hc8))
    go_roundw
    case rel=>exact ⟨x+1,_,_,by omega,by go_num,P8.out,HF2.out,HN2.out,by omega,by omega,B8.out,C8.out,by omega⟩
    case measure=>simp [intOf];omega
  · obtain rfl:x=n2:=by omega
    have zD:=KP.out.d.lt
    have fD:=KP.out.d.cells.2
    have d1:=KP.out.d.cells.1
    have PL:=hiq (KP.out.looks 0)
    have hcl:Chg (fun b=>b=p.D) wr (wr.setCell ⟨p.D,1,none⟩ (.int .i64 0)):=(Chg.refl _ _).set1 _ _
    have hid:=KP.out.d.id
    have hpb:=KP.out.b
    have hpo2:=KP.out.o
    have CL:=hiq (KC.out.chg hcl (fun e=>by omega))
    have BL:=hiq (KB.out.trans (hcl.below hz (fun b hb e=>by omega)))
    by_cases hbad:rightB new=true∧depth≤15
    · obtain ⟨hrn,hdp⟩:=hbad
      obtain ⟨gn,rfl⟩:=Int.eq_ofNat_of_zero_le (show 0≤new by rw [rightB_iff] at hrn;omega)
      obtain ⟨k,d,hkd⟩:∃k d:Nat,(k=1∧depth<0∧d=0)∨(k=2∧depth=(d:Int)∧d≤15):=⟨if depth<0 then 1 else 2,depth.toNat,by split <;> omega⟩
      have hkk:k=1∨(k=2∧d≤15):=by omega
      have NW:=hiq (fun (w':World) (h':TN w' p.B p.Q T E w0)=>dualNew_ok (w:=w') depth hkd hrn h')
      have NM:=hiq (fun (w':World) (h':DX w' p.mid p.hi p.D T 0)=>dmnew_ok (w:=w') depth hkd hrn h')
      have HKK:=hiq hkk
      have HRN:=hiq hrn
      have HDP:=hiq hdp
      clear hkd hkk hrn
      go_wp2_with (first
       | (go_at_call 41;(with_reducible refine (NW.out _ PL.out.t).mono ?_);rintro e w5 ⟨a,bcap,rfl,hA,ha1,ha2,hge,hb5⟩;have A5:=hiq hA;have HA1:=hiq ha1;have HA2:=hiq ha2;have HGE:=hiq hge;have HB5:=hiq hb5;have D5:=hiq (PL.out.d.later hb5);have C5:=hiq (CL.out.below hb5 CL.out.lt);have c5:=cased_cells C5.out;have c50:=c5.1;have c51:=c5.2.1;have c52:=c5.2.2.1;have zc5:=C5.out.lt;have B5:=hiq (BL.out.trans (hb5.mono BL.out.size));clear hA ha1 ha2 hge hb5 c5)
       | (go_at_call 47;(with_reducible refine (NM.out _ D5.out).mono ?_);rintro e w6 ⟨Rb,X,gt,tcap,pt,rfl,hM,hRb,hX,hg,hpt,hb6⟩;have M6:=hiq (md_mk (wA:=w) HKK.out HRN.out A5.out HA1.out HA2.out ⟨by omega,by omega,by omega,by omega,by omega,by omega,by have:=hcl.size;omega⟩ HGE.out HB5.out hM hRb hX hg hpt hb6 BL.out);clear hM hRb hX hg hpt hb6)
       | (go_at_call 14;(with_reducible refine (num_nil _).mono ?_);rintro e w7 ⟨rfl,rfl⟩))
      go_ret3
      exact .inr ⟨⟨HRN.out,HDP.out⟩,a,Rb,X,gt,tcap,k,d,p,pt,T,rfl,HKK.out,KF.out,KN.out,M6.out⟩
    · have hbd:15<depth∨rightB new=false:=by by_cases e:rightB new=true;exact .inl (by simp only [e,true_and] at hbad;omega);exact .inr (by simpa using e)
      have NW:=hiq (fun (w':World) (h':TN w' p.B p.Q T E w0)=>dualNew_bad (w:=w') new depth hbd h')
      have NM:=hiq (fun (w':World)=>dmnew_bad p.D new depth hbd w')
      have NU:=hiq (fun (w':World) (h':ErrsAre w' E)=>num_any E 1 (by decide) w' h')
      rw [errN_nz E 1 (by decide)] at NU
      unfold errAt at NW NU
      have HBAD:=hiq hbad
      clear hbad hbd
      go_wp2_with (first
       | (go_at_call 41;(with_reducible refine (NW.out _ PL.out.t).mono ?_);rintro e w5 ⟨rfl,hb5⟩;have C5:=hiq (CL.out.below hb5 CL.out.lt);have c5:=cased_cells C5.out;have c50:=c5.1;have c51:=c5.2.1;have c52:=c5.2.2.1;have zc5:=C5.out.lt;have B5:=hiq (BL.out.trans (hb5.mono BL.out.size));clear hb5 c5)
       | (go_at_call 47;(with_reducible refine (NM.out _).mono ?_);rintro e w6 ⟨rfl,rfl⟩)
       | (go_at_call 14;(with_reducible refine (NU.out _ (HE.out.below (HW.out.trans (B5.out.mono HW.out.size)))).mono ?_);rintro e w7 ⟨rfl,hb7⟩))
      go_ret3
      exact .inl ⟨HBAD.out,rfl,B5.out.trans (hb7.mono B5.out.size)⟩
end
end Go.Proofs.YtcnkgiapidlbkaaGreatDoor
namespace Go.Proofs.YtcnkgiapidlbkaaGreatDoor
open Go.RowKit Go.Proofs
structure DuCt (s:DuS) (H:Int→Nat) (m:Int):Prop where
 f:DuF s H
 c:s.T.lv+lvSum s.U s.k≤m
section
variable {s:DuS} {H:Int→Nat} {m:Int}
theorem DuCt.more {m':Int} (h:DuCt s H m) (hm:m≤m'):DuCt s H m':=⟨h.f,Int.le_trans h.c hm⟩
theorem DuCt.k12 (h:DuCt s H m):s.k=1∨s.k=2:=by have:=h.f.ok.hk;omega
theorem DuCt.put (h:DuCt s H m) (q v:Int) (hh:H q<18446744073709551616) (more:Bool):DuCt (s.put q v (H q) more) H (m+1):=by
 refine ⟨h.f.put q v hh more,?_⟩
 have hy:=h.f.ok.yk (H q)
 have hc:=h.c
 have u1:lvSum (upd s.U (s.y (H q)) ((s.U (s.y (H q))).putT q v (H q))) s.k≤lvSum s.U s.k+1:=by
  rw [lvSum_upd h.k12 hy,((h.f.u.f _ hy).put_lv q v).1];split <;> omega
 have t1:(s.T.putT q v (H q)).lv≤s.T.lv+1:=by rw [(h.f.t.put_lv q v).1];split <;> omega
 unfold DuS.put
 split
 · show s.T.lv+lvSum (upd s.U (s.y (H q)) _) s.k≤_;omega
 · split
   · show (s.T.putT q v (H q)).lv+lvSum s.U s.k≤_;omega
   · split
     · show s.T.lv+lvSum s.U s.k≤_;omega
     · split
       · show s.T.lv+lvSum (upd s.U (s.y (H q)) _) s.k≤_;omega
       · show (s.T.putT q v (H q)).lv+lvSum s.U s.k≤_;omega
theorem DuCt.del (h:DuCt s H m) (q:Int):DuCt (s.del q (H q)) H m:=by
 refine ⟨h.f.del q,?_⟩
 have hy:=h.f.ok.yk (H q)
 have hc:=h.c
 have u1:lvSum (upd s.U (s.y (H q)) ((s.U (s.y (H q))).delT q (H q))) s.k≤lvSum s.U s.k:=by
  rw [lvSum_upd h.k12 hy,del_lv];split <;> omega
 have t1:(s.T.delT q (H q)).lv≤s.T.lv:=by rw [del_lv];split <;> omega
 unfold DuS.del
 split
 · show s.T.lv+lvSum (upd s.U (s.y (H q)) _) s.k≤_;omega
 · show (s.T.delT q (H q)).lv+lvSum s.U s.k≤_;omega
theorem DuCt.prep (h:DuCt s H m):DuCt s.prep H m:=⟨h.f.prep,h.c⟩
theorem evF_lv {U:Nat→TabS} {k d:Nat} (h:UF U k d H) (hk:k=1∨(k=2∧d≤15)) (l:List EntS) (hH:∀e∈l,e.hash=(H e.key:Int)∧H e.key<18446744073709551616) (hok:EvOk k d l U) :
 ∀j,j≤l.length→lvSum (evF k d (l.take j) (U,0)).1 k=lvSum U k+j
 | 0,_=>by rw [List.take_zero];simp [evF]
 | j+1,hj=>by
  have ih:=evF_lv h hk l hH hok j (by omega)
  have hjl:j<l.length:=by omega
  obtain ⟨h1,-⟩:=evF_F h hk l hH hok j (by omega)
  have hb:=hok j hjl
  obtain ⟨hh1,hh2⟩:=hH l[j] (List.getElem_mem hjl)
  have hcv:l[j].hash.toNat=H l[j].key:=by rw [hh1];simp
  have hi:=tIx_lt (h:=H l[j].key) hk
  rw [hcv] at hb
  rw [evF_take hjl]
  unfold evS
  rw [hcv,lvSum_upd (by omega) hi,((h1.f _ hi).put_lv l[j].key l[j].val).1,hb,ih]
  simp;omega
theorem DuCt.move (h:DuCt s H m) (hHb:∀q,H q<18446744073709551616) (h0:s.bare=0) (hn:s.nx<s.T.n) (hok:EvOk s.k s.d (entsL (s.T.M s.nx) (s.T.S s.nx)) s.U):DuCt s.move H m:=by
 refine ⟨(h.f.move hHb h0 hn hok).1,?_⟩
 obtain ⟨g1,-,-⟩:=group_ents h.f.t hHb hn
 have h1:=evF_lv h.f.u h.f.ok.hk _ g1 hok _ (Nat.le_refl _)
 rw [List.take_length] at h1
 have h2:=takeT_lv s.T s.nx
 have hc:=h.c
 show (s.T.takeT s.nx).lv+lvSum (evF s.k s.d (entsL (s.T.M s.nx) (s.T.S s.nx)) (s.U,0)).1 s.k≤m
 rw [h1,h2];omega
theorem DuCt.len (h:DuCt s H m):((s.all s.k).length:Int)≤m:=by
 refine Int.le_trans (Int.le_of_eq ?_) h.c
 rw [all_entsU,List.length_append]
 have e0:=ents_lv h.f.t.good
 rcases h.k12 with e|e
 · rw [e,lvSum_one]
   have e1:=ents_lv (h.f.ok.u 0 (by omega)).1
   show (((s.T.ents.length+([] ++ (s.U 0).ents).length:Nat)):Int)=_
   rw [List.nil_append];omega
 · rw [e,lvSum_two]
   have e1:=ents_lv (h.f.ok.u 0 (by omega)).1
   have e2:=ents_lv (h.f.ok.u 1 (by omega)).1
   show (((s.T.ents.length+(([] ++ (s.U 0).ents) ++ (s.U 1).ents).length:Nat)):Int)=_
   rw [List.nil_append,List.length_append];omega
theorem DuCt.new {k d gn:Nat} {T:TabS} (hk:k=1∨(k=2∧d≤15)) (hr:rightB (gn:Int)=true) (hT:TFun T H) (hm:T.lv≤m):DuCt (DuS.newS k d gn T) H m:=by
 have h1:=DuL.new (m:=T.lv+T.tb) hk hr hT (Int.le_refl _)
 exact ⟨h1.f,Int.le_trans (Int.le_of_eq h1.c) hm⟩
theorem glook_nS (h:DuOK s):nS s (tabN s)=s.glook:=by
 rw [nS_all h]
 unfold DuS.glook DuS.groups
 rfl
end
structure Cnt (mt:MeterS) (a0 a1 a2 l0 l1 l2:Int):Prop where
 a0:mt.a0=a0
 a1:mt.a1=a1
 a2:mt.a2=a2
 l0:mt.l0=l0
 l1:mt.l1=l1
 l2:mt.l2=l2
section
variable {mt:MeterS} {a0 a1 a2 l0 l1 l2:Int}
theorem Cnt.add (h:Cnt mt a0 a1 a2 l0 l1 l2) {x y z:Int} (hb:(0≤a0∧0≤a1∧0≤a2∧0≤l0∧0≤l1∧0≤l2)∧a0≤1000000000∧a1≤1000000000∧a2≤1000000000∧l0≤1000000000∧l1≤1000000000∧l2≤1000000000) (hx:0≤x∧x≤100000) (hy:0≤y∧y≤100000) (hz:0≤z∧z≤100000) :
 Cnt (mt.add x y z) (a0+x) (a1+y) (a2+z) (l0+x) (l1+y) (l2+z):=by
 refine ⟨?_,?_,?_,?_,?_,?_⟩
 · show sumZ mt.a0 x=_;rw [h.a0,sumZ_add (by omega) (by omega) (by omega)]
 · show sumZ mt.a1 y=_;rw [h.a1,sumZ_add (by omega) (by omega) (by omega)]
 · show sumZ mt.a2 z=_;rw [h.a2,sumZ_add (by omega) (by omega) (by omega)]
 · show sumZ mt.l0 x=_;rw [h.l0,sumZ_add (by omega) (by omega) (by omega)]
 · show sumZ mt.l1 y=_;rw [h.l1,sumZ_add (by omega) (by omega) (by omega)]
 · show sumZ mt.l2 z=_;rw [h.l2,sumZ_add (by omega) (by omega) (by omega)]
theorem Cnt.probes (h:Cnt mt a0 a1 a2 l0 l1 l2) (hb:(0≤a0∧0≤a1∧0≤a2∧0≤l0∧0≤l1∧0≤l2)∧a0≤100000000∧a1≤1000000000∧a2≤1000000000∧l0≤100000000∧l1≤1000000000∧l2≤1000000000):∀p:Nat,p≤100000→Cnt (addN mt 1 0 0 p) (a0+p) a1 a2 (l0+p) l1 l2
 | 0,_=>by show Cnt mt (a0+((0:Nat):Int)) a1 a2 (l0+((0:Nat):Int)) l1 l2;simpa using h
 | p+1,hp=>by
  have ih:=Cnt.probes h hb p (by omega)
  have:=ih.add (x:=1) (y:=0) (z:=0) (by omega) (by omega) (by omega) (by omega)
  simp only [Int.add_zero] at this
  rw [show a0+((p+1:Nat):Int)=a0+(p:Int)+1 by omega,show l0+((p+1:Nat):Int)=l0+(p:Int)+1 by omega]
  exact this
theorem Cnt.visits (h:Cnt mt a0 a1 a2 l0 l1 l2) (hb:(0≤a0∧0≤a1∧0≤a2∧0≤l0∧0≤l1∧0≤l2)∧a0≤1000000000∧a1≤100000000∧a2≤1000000000∧l0≤1000000000∧l1≤100000000∧l2≤1000000000):∀p:Nat,p≤100000→Cnt (addN mt 0 1 0 p) a0 (a1+p) a2 l0 (l1+p) l2
 | 0,_=>by show Cnt mt a0 (a1+((0:Nat):Int)) a2 l0 (l1+((0:Nat):Int)) l2;simpa using h
 | p+1,hp=>by
  have ih:=Cnt.visits h hb p (by omega)
  have:=ih.add (x:=0) (y:=1) (z:=0) (by omega) (by omega) (by omega) (by omega)
  simp only [Int.add_zero] at this
  rw [show a1+((p+1:Nat):Int)=a1+(p:Int)+1 by omega,show l1+((p+1:Nat):Int)=l1+(p:Int)+1 by omega]
  exact this
theorem Cnt.reset (h:Cnt mt a0 a1 a2 l0 l1 l2):Cnt { mt with l0:=0,l1:=0,l2:=0:MeterS} a0 a1 a2 0 0 0:=⟨h.a0,h.a1,h.a2,rfl,rfl,rfl⟩
end
section
variable {w w' w0:World} {n:Nat} {a:Nat→Nat→Nat} {ss:Nat→DuS} {tk:Bool} {M:Nat} {mt mt':MeterS} {K:Nat→Prop} {E:Nat→Addr} {Ds:Nat→Nat}
theorem DZs.least {i:Nat} (h:DZs w n Ds ss tk M mt K E w0) (hi:i<n) (key hash:Int) (x y z:Int) :
 Calls Tryz.prog 19 #[.pointer (some ⟨Ds i,0,none⟩),.agg #[.pointer (some ⟨M,0,none⟩),.int .i64 x,.int .i64 y,.int .i64 z],.int .u64 hash,.int .u64 key] w fun e w' =>
  e = .returned (.tuple #[.agg #[.int .u64 ((ss i).least ⟨key,0,hash⟩).1.key,.int .u64 ((ss i).least ⟨key,0,hash⟩).1.val,.int .u64 ((ss i).least ⟨key,0,hash⟩).1.hash],.bool ((ss i).least ⟨key,0,hash⟩).2])∧DZs w' n Ds ss tk M (addN mt x y z (nS (ss i) (tabN (ss i)))) K E w0∧Chg (KC K w0.heap.size) w w':=by
 obtain ⟨a,h0,h1⟩:=h
 have hv:=h1.v i hi
 rw [←h0 i hi]
 refine (hv.least (mt:=mt) (lp:=some M) (fun b e=>by cases e;exact h1.m) (h1.lens hi) key hash (some ⟨M,0,none⟩) (.inr ⟨M,rfl,rfl⟩) x y z).mono ?_
 rintro e w' ⟨rfl,g1,g2,g3⟩
 obtain ⟨t1,t2⟩:=h1.turn hi g1 (g2 M rfl) ((addN_limited _ _ _ _ _).trans h1.ml) (fun b e => .inl e) (g3.mono (fun b _ e => .inl (by cases e;rfl)))
 rw [upd_self] at t1
 rw [upd_self] at t1
 exact ⟨rfl,⟨a,h0,t1⟩,t2⟩
theorem DZs.groups {i:Nat} (h:DZs w n Ds ss tk M mt K E w0) (hi:i<n):Calls Tryz.prog 38 #[.pointer (some ⟨Ds i,0,none⟩)] w fun e w'=>e = .returned (.int .i64 (((ss i).groups:Nat):Int))∧w=w':=by
 obtain ⟨a,h0,h1⟩:=h
 rw [←h0 i hi]
 exact (h1.v i hi).groups
theorem DZs.takeNo {i:Nat} (h:DZs w n Ds ss tk M mt K E w0) (hi:i<n) (hn:0<(ss i).left∨tk=true):Calls Tryz.prog 23 #[.pointer (some ⟨Ds i,0,none⟩)] w fun e w'=>e = .returned (.tuple #[.slice none 0 0,errAt E 5])∧Below w.heap.size w w':=by
 obtain ⟨a,h0,h1⟩:=h
 rw [←h0 i hi]
 exact (h1.v i hi).takeNo hn
theorem DZs.take {i:Nat} (h:DZs w n Ds ss false M mt K E w0) (hi:i<n) (hn:(ss i).left=0):Calls Tryz.prog 23 #[.pointer (some ⟨Ds i,0,none⟩)] w fun e w' =>
 ∃ (v:Value) (TB TQ:Nat→Nat),e = .returned (.tuple #[v,.nilIface])∧w'.ownsRow w.heap.size 74 1 v (ss i).k ((List.range (ss i).k).map (fun j=>Value.pointer (some ⟨TB j,0,none⟩)))∧(∀j,j<(ss i).k→TN w' (TB j) (TQ j) ((ss i).U j) E w0)∧Chg (KC K w0.heap.size) w w':=by
 obtain ⟨a,h0,h1⟩:=h
 have hv:=h1.v i hi
 rw [←h0 i hi]
 have hb0:(ss i).bare=0:=by unfold DuS.left at hn;omega
 rcases hv.m with ⟨bcap,hA⟩ | ⟨bcap,fcap,cap5,hB⟩
 · have:=hA.hb;omega
 · refine (hB.take hv.ok hn).mono ?_
   rintro e w' ⟨v,rfl,g1,g2,g3⟩
   exact ⟨v,_,_,rfl,g1,g2.u,g3.mono (fun b _ e=>by
    have hx:DuX (a i) (ss i) b:=⟨0,.lt4 (by decide),e⟩
    exact ⟨(hv.xlt hx).2,(h1.am i hi b hx).2⟩)⟩
theorem DZs.stepBad {i:Nat} (h:DZs w n Ds ss tk M mt K E w0) (hi:i<n) (h0b:(ss i).bare=0) (hn:(ss i).nx<(ss i).T.n) (hev:¬EvOk (ss i).k (ss i).d (entsL ((ss i).T.M (ss i).nx) ((ss i).T.S (ss i).nx)) (ss i).U) (hbr:∀w',Below w0.heap.size w0 w'→w'.cell? ⟨3,0,none⟩=some (errAt E 10)) :
 Calls Tryz.prog 30 #[.pointer (some ⟨Ds i,0,none⟩),.pointer (some ⟨M,0,none⟩)] w fun e w'=>e = .panicked [{ v:=raisedV (errAt E 10),recovered:=false}]∧Chg (KC K w0.heap.size) w w':=by
 obtain ⟨a,h0,h1⟩:=h
 have hv:=h1.v i hi
 have hls:=h1.lens hi
 unfold LensV at hls
 rw [←h0 i hi]
 rcases hv.m with ⟨bcap,hA⟩ | ⟨bcap,fcap,cap5,hB⟩
 · have:=hA.hb;omega
 · rw [decide_eq_true h0b] at hls
   refine (hB.stepBad hv.ok h1.m hls h1.ml hn hev hbr).mono ?_
   rintro e w' ⟨rfl,g⟩
   refine ⟨rfl,g.mono (fun b _ e=>?_)⟩
   rcases e with e|e
   · rw [e];exact h1.mz
   · exact ⟨(hv.xlt e).2,(h1.am i hi b e).2⟩
end
section
variable {w w' w0:World} {D:Nat} {s:DuS} {tk:Bool} {M:Nat} {mt mt':MeterS} {K:Nat→Prop} {E:Nat→Addr}
theorem D1s.least (h:D1s w D s tk M mt K E w0) (key hash:Int) (x y z:Int) :
 Calls Tryz.prog 19 #[.pointer (some ⟨D,0,none⟩),.agg #[.pointer (some ⟨M,0,none⟩),.int .i64 x,.int .i64 y,.int .i64 z],.int .u64 hash,.int .u64 key] w fun e w' =>
  e = .returned (.tuple #[.agg #[.int .u64 (s.least ⟨key,0,hash⟩).1.key,.int .u64 (s.least ⟨key,0,hash⟩).1.val,.int .u64 (s.least ⟨key,0,hash⟩).1.hash],.bool (s.least ⟨key,0,hash⟩).2])∧D1s w' D s tk M (addN mt x y z (nS s (tabN s))) K E w0∧Chg (KC K w0.heap.size) w w':=DZs.least h (by decide:0<1) key hash x y z
theorem D1s.groups (h:D1s w D s tk M mt K E w0):Calls Tryz.prog 38 #[.pointer (some ⟨D,0,none⟩)] w fun e w'=>e = .returned (.int .i64 ((s.groups:Nat):Int))∧w=w':=DZs.groups h (by decide:0<1)
theorem D1s.takeNo (h:D1s w D s tk M mt K E w0) (hn:0<s.left∨tk=true):Calls Tryz.prog 23 #[.pointer (some ⟨D,0,none⟩)] w fun e w'=>e = .returned (.tuple #[.slice none 0 0,errAt E 5])∧Below w.heap.size w w':=DZs.takeNo (i:=0) (Ds:=fun _=>D) (ss:=fun _=>s) h (by decide) hn
theorem D1s.take (h:D1s w D s false M mt K E w0) (hn:s.left=0):Calls Tryz.prog 23 #[.pointer (some ⟨D,0,none⟩)] w fun e w' =>
 ∃ (v:Value) (TB TQ:Nat→Nat),e = .returned (.tuple #[v,.nilIface])∧w'.ownsRow w.heap.size 74 1 v s.k ((List.range s.k).map (fun j=>Value.pointer (some ⟨TB j,0,none⟩)))∧(∀j,j<s.k→TN w' (TB j) (TQ j) (s.U j) E w0)∧Chg (KC K w0.heap.size) w w':=DZs.take (i:=0) (Ds:=fun _=>D) (ss:=fun _=>s) h (by decide) hn
theorem D1s.stepBad (h:D1s w D s tk M mt K E w0) (h0b:s.bare=0) (hn:s.nx<s.T.n) (hev:¬EvOk s.k s.d (entsL (s.T.M s.nx) (s.T.S s.nx)) s.U) (hbr:∀w',Below w0.heap.size w0 w'→w'.cell? ⟨3,0,none⟩=some (errAt E 10)) :
 Calls Tryz.prog 30 #[.pointer (some ⟨D,0,none⟩),.pointer (some ⟨M,0,none⟩)] w fun e w'=>e = .panicked [{ v:=raisedV (errAt E 10),recovered:=false}]∧Chg (KC K w0.heap.size) w w':=DZs.stepBad (i:=0) (Ds:=fun _=>D) (ss:=fun _=>s) h (by decide) h0b hn hev hbr
theorem D1s.m (h:D1s w D s tk M mt K E w0):Blk w M 36 mt.cells:=by obtain ⟨a,-,h1⟩:=h;exact h1.m
theorem D1s.keep {K':Nat→Prop} (h:D1s w D s tk M mt K E w0) (hb:Below w.heap.size w w') (hK:∀b,K' b→K b∨(w.heap.size≤b∧b<w'.heap.size)):D1s w' D s tk M mt K' E w0:=by
 obtain ⟨a,h0,h1⟩:=h
 have h2:=h1.later hb
 refine ⟨a,h0,⟨h2.v,h2.m,h2.ml,⟨h2.mz.1,fun e=>?_⟩,fun i hi b hx=>⟨(h2.am i hi b hx).1,fun e=>?_⟩,h2.ap,fun b e=>?_,h2.hb⟩⟩
 · rcases hK _ e with e|e
   · exact h1.mz.2 e
   · have:=h1.m.lt;omega
 · rcases hK _ e with e|e
   · exact (h1.am i hi b hx).2 e
   · have:=((h1.v i hi).xlt hx).1;omega
 · rcases hK _ e with e|e
   · exact h2.kz b e
   · exact e.2
end
def KP (K:Nat→Prop) (P:Nat) (b:Nat):Prop:=K b∨b=P
section
variable {w w' w0:World} {D:Nat} {s:DuS} {tk:Bool} {M:Nat} {mt mt':MeterS} {K:Nat→Prop} {E:Nat→Addr}
theorem D1s.ok (h:D1s w D s tk M mt K E w0):DuOK s:=by obtain ⟨a,-,h1⟩:=h.v;exact h1.ok
theorem D1s.drew (h:D1s w D s tk M mt K E w0):D1s w.drew D s tk M mt K E w0:=h.later (Below.refl _ _).drew
theorem D1s.keepP (h:D1s w D s tk M mt K E w0) (o:Obj):D1s (w.alloc o) D s tk M mt (KP K w.heap.size) E w0 :=
 h.keep ((Below.refl _ _).alloc (Nat.le_refl _) o) (fun b e=>by
  rcases e with e|e
  · exact .inl e
  · exact .inr ⟨by omega,by rw [e];simp⟩)
theorem D1s.setP {P:Nat} (h:D1s w D s tk M mt (KP K P) E w0) (h0:w0.heap.size≤P) (hc:Chg (fun b=>b=P) w w'):D1s w' D s tk M mt K E w0 :=
 (h.kept hc (fun b e=>⟨.inr e,by rw [e];exact h0⟩)).keep (Below.refl _ _) (fun b e => .inl (.inl e))
end
theorem DM.drew {w:World} {Rb X gt tcap:Nat} {p0:PB} {pt:Nat→PB} {s:DuS} {tk:Bool} {L0:Int} {Lc:Nat→Int} (h:DM w Rb X gt tcap p0 pt s tk L0 Lc):DM w.drew Rb X gt tcap p0 pt s tk L0 Lc:=h.later (Below.refl _ _).drew
theorem dacts_ent:Enters 29:=fun args w=>enters_of Tryz.func29 (by kernel_rfl) rfl args w
theorem dacts_clos (D M B5 B8 BI:Nat) (b x:Bool) (P:World→Prop) (w:World) (h5:Blk w B5 28 #[.pointer (some ⟨D,0,none⟩)]) (h8:Blk w B8 32 #[.pointer (some ⟨M,0,none⟩)])
 (hS:Calls Tryz.prog 30 #[.pointer (some ⟨D,0,none⟩),.pointer (some ⟨M,0,none⟩)] w fun e w'=>e = .returned (.bool b)∧P w') (hI:∀w',P w'→Blk w' BI 4 #[.bool x]) :
 Calls Tryz.prog 29 #[.pointer (some ⟨B5,0,none⟩),.pointer (some ⟨B8,0,none⟩),.pointer (some ⟨BI,0,none⟩)] w fun e w'=>e = .returned (.tuple #[])∧∃w2,P w2∧w2.setCell ⟨BI,0,none⟩ (.bool b)=w':=by
 have c3:=h5.cell 0
 have c6:=h8.cell 0
 have z3:=h5.lt
 have z6:=h8.lt
 have HS:=hiq hS
 have H8:=hiq hI
 clear h5 h8 hS hI
 go_enter Tryz.func29,Tryz.ntmps29
 go_wp2_with (go_at_call 30;(with_reducible refine HS.out.mono ?_);rintro e w2 ⟨rfl,hp2⟩;have hb2:=H8.out _ hp2;have d0:=hb2.cell 0;have f0:=hb2.frozen 0;have zI:=hb2.lt;have P2:=hiq hp2;clear hp2 hb2)
 ((try simp only [Exit.inBlock,Exit.then]);first|refine bodyPost_end (results_none rfl _ _ _) rfl ?_|refine bodyPost_ret (results_none rfl _ _ _) rfl ?_)
 exact ⟨rfl,w2,P2.out,rfl⟩
theorem dacts_clos_bad (D M B5 B8 BI:Nat) (E:Nat→Addr) (P:World→Prop) (w:World) (h5:Blk w B5 28 #[.pointer (some ⟨D,0,none⟩)]) (h8:Blk w B8 32 #[.pointer (some ⟨M,0,none⟩)])
 (hS:Calls Tryz.prog 30 #[.pointer (some ⟨D,0,none⟩),.pointer (some ⟨M,0,none⟩)] w fun e w'=>e = .panicked [{ v:=raisedV (errAt E 10),recovered:=false}]∧P w') :
 Calls Tryz.prog 29 #[.pointer (some ⟨B5,0,none⟩),.pointer (some ⟨B8,0,none⟩),.pointer (some ⟨BI,0,none⟩)] w fun e w'=>e = .panicked [{ v:=raisedV (errAt E 10),recovered:=false}]∧P w':=by
 have c3:=h5.cell 0
 have c6:=h8.cell 0
 have z3:=h5.lt
 have z6:=h8.lt
 have HS:=hiq hS
 clear h5 h8 hS
 go_enter Tryz.func29,Tryz.ntmps29
 go_wp2_with (go_at_call 30;(with_reducible refine HS.out.mono ?_);rintro e w2 ⟨rfl,hp2⟩;have P2:=hiq hp2;clear hp2)
 exact ⟨rfl,rfl,P2.out⟩
section
variable {w w' w0:World} {D:Nat} {s:DuS} {tk:Bool} {M:Nat} {mt mt':MeterS} {K:Nat→Prop} {E:Nat→Addr} {B5 B8 BI:Nat}
theorem dcatch_ok (h:D1s w D s tk M mt K E w0) (h5:Blk w B5 28 #[.pointer (some ⟨D,0,none⟩)]) (h8:Blk w B8 32 #[.pointer (some ⟨M,0,none⟩)]) (hI:Blk w BI 4 #[.bool false]) (hKI:K BI) (hI0:w0.heap.size≤BI) (hev:s.evOk) :
 Calls Tryz.prog 28 #[.func (.func 29) #[] #[.pointer (some ⟨B5,0,none⟩),.pointer (some ⟨B8,0,none⟩),.pointer (some ⟨BI,0,none⟩)]] w fun e w' =>
  e = .returned .nilIface∧D1s w' D s.stp tk M (s.stpM mt) K E w0∧Blk w' BI 4 #[.bool (decide (0<s.left))]∧Chg (fun c=>KC K w0.heap.size c∨c=BI) w w':=by
 have lI:=hI.lt
 have hz0:=h.bel.size
 have hb1:Below w.heap.size w (w.alloc (.cells #[.nilIface] 48)):=(Below.refl _ _).alloc (Nat.le_refl _) _
 have h1:=h.keep (K':=fun b=>K b∨b=w.heap.size) hb1 (fun b e=>by
  rcases e with e|e
  · exact .inl e
  · exact .inr ⟨by omega,by simp;omega⟩)
 have hA:=dacts_clos D M B5 B8 BI (decide (0<s.left)) false (fun w2=>D1s w2 D s.stp tk M (s.stpM mt) (fun b=>K b∨b=w.heap.size) E w0∧Chg (KC (fun b=>K b∨b=w.heap.size) w0.heap.size) (w.alloc (.cells #[.nilIface] 48)) w2) (w.alloc (.cells #[.nilIface] 48)) (h5.alloc _) (h8.alloc _) (h1.step hev)
  (fun w2 h2=>(hI.alloc _).chg h2.2 (fun e=>e.2 (.inl hKI)))
 refine (catch_ok _ _ _ w dacts_ent hA (fun w3 ⟨w2,⟨hv2,hc2⟩,e⟩=>by
  rw [←e]
  exact ((Blk.new w 48 #[.nilIface]).chg hc2 (fun e=>e.2 (.inr rfl))).other (by omega) _ _)).mono ?_
 rintro e w4 ⟨rfl,w3,⟨w2,⟨hv2,hc2⟩,rfl⟩,rfl⟩
 have c3:Chg (fun c=>c=BI∨c=w.heap.size) w2 ((w2.setCell ⟨BI,0,none⟩ (.bool (decide (0<s.left)))).setCell ⟨w.heap.size,0,none⟩ .nilIface):=(((Chg.refl (fun c=>c=BI) w2).set1 _ _).mono (fun _ _ e => .inl e)).trans (((Chg.refl (fun c=>c=w.heap.size) _).set1 _ _).mono (fun _ _ e => .inr e))
 refine ⟨rfl,(hv2.kept c3 (fun b e=>?_)).keep (Below.refl _ _) (fun b e => .inl (.inl e)),?_,?_⟩
 · rcases e with e|e
   · rw [e];exact ⟨.inl hKI,hI0⟩
   · rw [e];exact ⟨.inr rfl,hz0⟩
 · exact (((hI.alloc _).chg hc2 (fun e=>e.2 (.inl hKI))).set 0 _).other (by omega) _ _
 · exact ((((Chg.refl _ w).alloc _).trans (hc2.mono (fun _ _ e => .inl ⟨e.1,fun k=>e.2 (.inl k)⟩))).trans' c3 (fun c hc e=>by rcases e with e|e;exact .inr e;omega))
theorem dcatch_bad (h:D1s w D s tk M mt K E w0) (h5:Blk w B5 28 #[.pointer (some ⟨D,0,none⟩)]) (h8:Blk w B8 32 #[.pointer (some ⟨M,0,none⟩)]) (h0b:s.bare=0) (hn:s.nx<s.T.n) (hev:¬EvOk s.k s.d (entsL (s.T.M s.nx) (s.T.S s.nx)) s.U)
 (hbr:∀w',Below w0.heap.size w0 w'→w'.cell? ⟨3,0,none⟩=some (errAt E 10)) :
 Calls Tryz.prog 28 #[.func (.func 29) #[] #[.pointer (some ⟨B5,0,none⟩),.pointer (some ⟨B8,0,none⟩),.pointer (some ⟨BI,0,none⟩)]] w fun e w' =>
  e = .returned (errAt E 10)∧Chg (KC K w0.heap.size) w w':=by
 have hb1:Below w.heap.size w (w.alloc (.cells #[.nilIface] 48)):=(Below.refl _ _).alloc (Nat.le_refl _) _
 have h1:=h.keep (K':=fun b=>K b∨b=w.heap.size) hb1 (fun b e=>by
  rcases e with e|e
  · exact .inl e
  · exact .inr ⟨by omega,by simp;omega⟩)
 have hA:=dacts_clos_bad D M B5 B8 BI E (fun w2=>Chg (KC (fun b=>K b∨b=w.heap.size) w0.heap.size) (w.alloc (.cells #[.nilIface] 48)) w2) (w.alloc (.cells #[.nilIface] 48)) (h5.alloc _) (h8.alloc _) (h1.stepBad h0b hn hev hbr)
 refine (catch_raised _ _ _ _ _ w dacts_ent hA (fun w2 hc2=>(Blk.new w 48 #[.nilIface]).chg hc2 (fun e=>e.2 (.inr rfl)))).mono ?_
 rintro e w4 ⟨rfl,w2,hc2,rfl⟩
 have hsz:w.heap.size<w2.heap.size:=by have:=hc2.size;simp at this;omega
 exact ⟨rfl,((((Chg.refl _ w).alloc _).trans (hc2.mono (fun _ _ e=>⟨e.1,fun k=>e.2 (.inl k)⟩))).trans' ((Chg.refl (fun c=>c=w.heap.size) _).set1 _ _) (fun c hc e=>by omega)).alloc _⟩
end
def DuS.stpV (s:DuS):Nat:=if s.bare=0 then (if s.nx<s.T.n then 1+(evF s.k s.d (entsL (s.T.M s.nx) (s.T.S s.nx)) (s.U,0)).2 else 0) else 0
theorem DuS.ev_or (s:DuS):s.evOk∨(s.bare=0∧s.nx<s.T.n∧¬EvOk s.k s.d (entsL (s.T.M s.nx) (s.T.S s.nx)) s.U):=by
 by_cases h0:s.bare=0
 · by_cases hn:s.nx<s.T.n
   · by_cases he:EvOk s.k s.d (entsL (s.T.M s.nx) (s.T.S s.nx)) s.U
     · exact .inl (fun _ _=>he)
     · exact .inr ⟨h0,hn,he⟩
   · exact .inl (fun _ h=>absurd h hn)
 · exact .inl (fun h _=>absurd h h0)
theorem evF_two {U:Nat→TabS} {k d gn:Nat} (hk:k=1∨(k=2∧d≤15)) (l:List EntS) (hh:∀e∈l,e.hash.toNat<18446744073709551616) (hU:∀i,i<k→TGood (U i)∧(U i).n=gn):∀j,j≤l.length→(evF k d (l.take j) (U,0)).2≤64*j
 | 0,_=>by rw [List.take_zero];simp [evF]
 | j+1,hj=>by
  have ih:=evF_two hk l hh hU j (by omega)
  have hjl:j<l.length:=by omega
  have hg:=evF_good hk (l.take j) U 0 (fun e he=>hh e (List.mem_of_mem_take he)) hU (tIx k d l[j].hash.toNat) (tIx_lt hk)
  rw [evF_take hjl]
  unfold evS
  have:=looks_n hg.1 l[j].key l[j].hash.toNat
  show (evF k d (l.take j) (U,0)).2+_≤_
  omega
theorem DuOK.stpV {s:DuS} (h:DuOK s):s.stpV≤513:=by
 unfold DuS.stpV
 split
 · split
   · rename_i h0 hn
     have hl:∀e∈entsL (s.T.M s.nx) (s.T.S s.nx),e.hash.toNat<18446744073709551616:=fun e he=>(ents_hash (h.t.good s.nx hn) he).2
     have h1:=evF_two h.hk _ hl h.u _ (Nat.le_refl _)
     rw [List.take_length] at h1
     have:=entsL_len (s.T.M s.nx) (s.T.S s.nx)
     omega
   · omega
 · omega
theorem stp_k (s:DuS):s.stp.k=s.k∧s.stp.gn=s.gn∧s.stp.T.n=s.T.n:=by
 unfold DuS.stp
 split
 · split
   · exact ⟨rfl,rfl,takeT_n _ _⟩
   · exact ⟨rfl,rfl,rfl⟩
 · exact ⟨rfl,rfl,rfl⟩
theorem DuCt.stp {s:DuS} {H:Int→Nat} {m:Int} (h:DuCt s H m) (hHb:∀q,H q<18446744073709551616) (hev:s.evOk):DuCt s.stp H m:=by
 unfold DuS.stp
 split
 · rename_i h0
   split
   · rename_i hn
     exact h.move hHb h0 hn (hev h0 hn)
   · exact h
 · exact h.prep
section
variable {w w':World} {Rb X gt tcap:Nat} {p0:PB} {pt:Nat→PB} {s:DuS} {tk:Bool} {L0:Int} {Lc:Nat→Int}
theorem DM.stp (h:DM w Rb X gt tcap p0 pt s tk L0 Lc) (hok:DuOK s) (hev:s.evOk) (hL:0≤L0∧L0≤100000000) (mL:Int) (hmL:0≤mL∧mL≤100000000) (hLc:∀i,i<s.k→0≤Lc i∧Lc i≤mL):Calls Tryz.prog 31 #[.pointer (some ⟨Rb,0,none⟩)] w fun e w' =>
 ∃ (L0':Int) (Lc':Nat→Int),e = .returned (.tuple #[.bool (decide (0<s.left)),.bool false])∧DM w' Rb X gt tcap p0 pt s.stp tk L0' Lc'∧L0'+sumI Lc' s.k=L0+sumI Lc s.k+(s.stpV:Int)∧(L0≤L0'∧L0'≤L0+1)∧(∀i,i<s.k→0≤Lc' i∧Lc' i≤mL+512)∧Chg (DMX Rb X p0 pt s.k) w w':=by
 have hx:=hok.hx
 unfold DuS.stp DuS.stpV DuS.left
 by_cases h0:s.bare=0
 · rw [if_pos h0,if_pos h0]
   by_cases hn:s.nx<s.T.n
   · rw [if_pos hn,if_pos hn,decide_eq_true (show 0<s.bare+(s.T.n-s.nx) by omega)]
     refine (h.step h0 hL mL hmL hn hLc).mono ?_
     rintro e w' ⟨b,rfl,g1,g2,g3,g4⟩
     cases b with
     | true=>exact absurd (hev h0 hn) (g2 rfl)
     | false =>
      obtain ⟨Lc',k1,k2,k3⟩:=g3 rfl
      exact ⟨_,_,rfl,k1,by rw [k2];omega,by omega,k3,g4⟩
   · rw [if_neg hn,if_neg hn,decide_eq_false (show ¬0<s.bare+(s.T.n-s.nx) by omega)]
     refine (h.stepNo h0 (by omega)).mono ?_
     rintro e w' ⟨rfl,g⟩
     exact ⟨L0,Lc,rfl,h.later g,by simp,by omega,fun i hi=>by have:=hLc i hi;omega,Chg.of_below g⟩
 · rw [if_neg h0,if_neg h0,decide_eq_true (show 0<s.bare+(s.T.n-s.nx) by omega)]
   refine (h.prep hok (by omega)).mono ?_
   rintro e w' ⟨rfl,g1,g2⟩
   exact ⟨L0,Lc,rfl,g1,by simp,by omega,fun i hi=>by have:=hLc i hi;omega,g2⟩
theorem DM.stpBad (h:DM w Rb X gt tcap p0 pt s tk L0 Lc) (h0:s.bare=0) (hn:s.nx<s.T.n) (hev:¬EvOk s.k s.d (entsL (s.T.M s.nx) (s.T.S s.nx)) s.U) (hL:0≤L0∧L0≤100000000) (mL:Int) (hmL:0≤mL∧mL≤100000000) (hLc:∀i,i<s.k→0≤Lc i∧Lc i≤mL):Calls Tryz.prog 31 #[.pointer (some ⟨Rb,0,none⟩)] w fun e w' =>
 e = .returned (.tuple #[.bool true,.bool true])∧Chg (DMX Rb X p0 pt s.k) w w':=by
 refine (h.step h0 hL mL hmL hn hLc).mono ?_
 rintro e w' ⟨b,rfl,g1,g2,g3,g4⟩
 cases b with
 | true=>exact ⟨rfl,g4⟩
 | false=>exact absurd (g1 rfl) hev
end
theorem Cnt.stp {s:DuS} {mt:MeterS} {a0 a1 a2:Int} (h:Cnt mt a0 a1 a2 0 0 0) (hx:s.nx≤s.T.n) (hb:(0≤a0∧0≤a1∧0≤a2)∧a0≤10000000∧a1≤10000000∧a2≤10000000) (hv:s.stpV≤100000) :
 Cnt (s.stpM mt) a0 (a1+if s.bare=0 then (s.stpV:Int) else 1) (a2+if 0<s.left then 1 else 0) 0 (if s.bare=0 then (s.stpV:Int) else 1) (if 0<s.left then 1 else 0):=by
 unfold DuS.stpV at *
 unfold DuS.stpM DuS.left
 by_cases h0:s.bare=0
 · rw [if_pos h0,if_pos h0,if_pos h0] at *
   by_cases hn:s.nx<s.T.n
   · rw [if_pos hn] at *
     rw [if_pos hn,if_pos (show 0<s.bare+(s.T.n-s.nx) by omega)]
     have h1:=(h.add (x:=0) (y:=0) (z:=1) (by omega) (by omega) (by omega) (by omega)).visits (by omega) _ hv
     simpa using h1
   · rw [if_neg hn] at *
     rw [if_neg hn,if_neg (show ¬0<s.bare+(s.T.n-s.nx) by omega)]
     simpa using h
 · rw [if_neg h0,if_neg h0,if_pos (show 0<s.bare+(s.T.n-s.nx) by omega)]
   have h1:=(h.add (x:=0) (y:=1) (z:=0) (by omega) (by omega) (by omega) (by omega)).add (x:=0) (y:=0) (z:=1) (by omega) (by omega) (by omega) (by omega)
   simpa using h1
def headR:Code→Option Nat
 | .region i _ _=>some i
 | .seq a _=>headR a
 | _=>none
def findBlk (k:Nat):Code→Option Code
 | .block i c=>bif Nat.beq i k then some (.block i c) else findBlk k c
 | .seq a b=>match findBlk k a with
  | some c=>some c
  | none=>findBlk k b
 | .cond _ a b=>match findBlk k a with
  | some c=>some c
  | none=>findBlk k b
 | .loop c=>findBlk k c
 | .scope c=>findBlk k c
 | _=>none
def findSeq (k:Nat):Code→Option Code
 | .region i o d=>bif Nat.beq i k then some (.region i o d) else none
 | .seq a b=>match headR a with
  | some i=>bif Nat.beq i k then some (.seq a b) else match findSeq k a with
   | some c=>some c
   | none=>findSeq k b
  | none=>match findSeq k a with
   | some c=>some c
   | none=>findSeq k b
 | .cond _ a b=>match findSeq k a with
  | some c=>some c
  | none=>findSeq k b
 | .block _ c=>findSeq k c
 | .loop c=>findSeq k c
 | .scope c=>findSeq k c
 | _=>none
def KA (C B5 B8 AL Rb X gt:Nat) (p0:PB) (pt:Nat→PB) (k:Nat) (b:Nat):Prop:=b=C∨b=B5∨b=B8∨b=AL∨DMX Rb X p0 pt k b∨b=gt
structure DAs (w:World) (C B5 B8 AL D M Rb X gt tcap:Nat) (p0:PB) (pt:Nat→PB) (s:DuS) (mt:MeterS) (K:Nat→Prop) (L0:Int) (Lc:Nat→Int) (q0 q1 q2:Int) (cs:Array Value) (E:Nat→Addr) (w0:World):Prop where
 z:D1s w D s false M mt K E w0
 r:DM w Rb X gt tcap p0 pt s false L0 Lc
 c:Blk w C 25 cs
 b5:Blk w B5 28 #[.pointer (some ⟨D,0,none⟩)]
 b8:Blk w B8 32 #[.pointer (some ⟨M,0,none⟩)]
 al:Blk w AL 34 #[.int .i64 q0,.int .i64 q1,.int .i64 q2]
 k:∀b,KA C B5 B8 AL Rb X gt p0 pt s.k b→K b
 n:(¬DMX Rb X p0 pt s.k C∧¬DMX Rb X p0 pt s.k B5∧¬DMX Rb X p0 pt s.k B8∧¬DMX Rb X p0 pt s.k AL)∧AL≠C∧AL≠B5∧AL≠B8∧w0.heap.size≤AL∧∀b,DMX Rb X p0 pt s.k b→w0.heap.size≤b∧b≠AL
section
variable {w w' w0:World} {C B5 B8 AL D M Rb X gt tcap:Nat} {p0:PB} {pt:Nat→PB} {s:DuS} {mt:MeterS} {K:Nat→Prop} {L0:Int} {Lc:Nat→Int} {q0 q1 q2:Int} {cs:Array Value} {E:Nat→Addr}
theorem DAs.later (h:DAs w C B5 B8 AL D M Rb X gt tcap p0 pt s mt K L0 Lc q0 q1 q2 cs E w0) (hb:Below w.heap.size w w'):DAs w' C B5 B8 AL D M Rb X gt tcap p0 pt s mt K L0 Lc q0 q1 q2 cs E w0 :=
 ⟨h.z.later hb,h.r.later hb,h.c.below hb h.c.lt,h.b5.below hb h.b5.lt,h.b8.below hb h.b8.lt,h.al.below hb h.al.lt,h.k,h.n⟩
theorem DAs.drew (h:DAs w C B5 B8 AL D M Rb X gt tcap p0 pt s mt K L0 Lc q0 q1 q2 cs E w0):DAs w.drew C B5 B8 AL D M Rb X gt tcap p0 pt s mt K L0 Lc q0 q1 q2 cs E w0:=h.later (Below.refl _ _).drew
theorem DAs.keptM (h:DAs w C B5 B8 AL D M Rb X gt tcap p0 pt s mt K L0 Lc q0 q1 q2 cs E w0) (hc:Chg (KC K w0.heap.size) w w'):DM w' Rb X gt tcap p0 pt s false L0 Lc∧Blk w' C 25 cs∧Blk w' B5 28 #[.pointer (some ⟨D,0,none⟩)]∧Blk w' B8 32 #[.pointer (some ⟨M,0,none⟩)]∧Blk w' AL 34 #[.int .i64 q0,.int .i64 q1,.int .i64 q2] :=
 ⟨h.r.chg hc (fun b e e2=>e2.2 (h.k b (.inr (.inr (.inr (.inr (.inl e))))))) (fun e=>e.2 (h.k _ (.inr (.inr (.inr (.inr (.inr rfl))))))),h.c.chg hc (fun e=>e.2 (h.k _ (.inl rfl))),h.b5.chg hc (fun e=>e.2 (h.k _ (.inr (.inl rfl)))),h.b8.chg hc (fun e=>e.2 (h.k _ (.inr (.inr (.inl rfl))))),h.al.chg hc (fun e=>e.2 (h.k _ (.inr (.inr (.inr (.inl rfl))))))⟩
end
theorem D1s.meter {w w' w0:World} {D:Nat} {s:DuS} {tk:Bool} {M:Nat} {mt mt':MeterS} {K:Nat→Prop} {E:Nat→Addr} (h:D1s w D s tk M mt K E w0) (hm:Blk w' M 36 mt'.cells) (hl:mt'.limited=mt.limited) (hc:Chg (fun b=>b=M) w w'):D1s w' D s tk M mt' K E w0∧¬K M∧w0.heap.size≤M:=by
 obtain ⟨a,h0,h1⟩:=h
 exact ⟨⟨a,h0,⟨fun i hi=>(h1.v i hi).chg hc (fun b e=>by rw [e];exact h1.mz.1) (fun x hx e=>(h1.am i hi _ ⟨x,hx,rfl⟩).1 e),hm,hl.trans h1.ml,h1.mz,h1.am,h1.ap,fun b e=>Nat.lt_of_lt_of_le (h1.kz b e) hc.size,h1.hb.trans (hc.below h1.hb.size (fun k hk e=>by have:=h1.mz.1;omega))⟩⟩,h1.mz.2,h1.mz.1⟩
section
variable {w w' w0:World} {C B5 B8 AL D M Rb X gt tcap:Nat} {p0:PB} {pt:Nat→PB} {s:DuS} {mt mt':MeterS} {K K':Nat→Prop} {L0:Int} {Lc:Nat→Int} {q0 q1 q2:Int} {cs:Array Value} {E:Nat→Addr}
theorem DAs.meter (h:DAs w C B5 B8 AL D M Rb X gt tcap p0 pt s mt K L0 Lc q0 q1 q2 cs E w0) (hm:Blk w' M 36 mt'.cells) (hl:mt'.limited=mt.limited) (hc:Chg (fun b=>b=M) w w'):DAs w' C B5 B8 AL D M Rb X gt tcap p0 pt s mt' K L0 Lc q0 q1 q2 cs E w0:=by
 obtain ⟨hz,hM,h0⟩:=h.z.meter hm hl hc
 obtain ⟨g1,g2,g3,g4,g5⟩:=h.keptM (hc.mono (fun b _ e=>by rw [e];exact ⟨h0,hM⟩))
 exact ⟨hz,g1,g2,g3,g4,g5,h.k,h.n⟩
theorem DAs.keep (h:DAs w C B5 B8 AL D M Rb X gt tcap p0 pt s mt K L0 Lc q0 q1 q2 cs E w0) (hb:Below w.heap.size w w') (hK:∀b,K' b→K b∨(w.heap.size≤b∧b<w'.heap.size)) (hk:∀b,KA C B5 B8 AL Rb X gt p0 pt s.k b→K' b):DAs w' C B5 B8 AL D M Rb X gt tcap p0 pt s mt K' L0 Lc q0 q1 q2 cs E w0 :=
 have h':=h.later hb
 ⟨h.z.keep hb hK,h'.r,h'.c,h'.b5,h'.b8,h'.al,hk,h'.n⟩
theorem DAs.both {w1:World} {s':DuS} {L0':Int} {Lc':Nat→Int} (h:DAs w C B5 B8 AL D M Rb X gt tcap p0 pt s mt K L0 Lc q0 q1 q2 cs E w0) (hk:s'.k=s.k) (hz:D1s w1 D s' false M mt' K E w0) (hc:Chg (KC K w0.heap.size) w w1) (hr:DM w' Rb X gt tcap p0 pt s' false L0' Lc') (hc2:Chg (DMX Rb X p0 pt s.k) w1 w'):DAs w' C B5 B8 AL D M Rb X gt tcap p0 pt s' mt' K L0' Lc' q0 q1 q2 cs E w0:=by
 obtain ⟨-,g2,g3,g4,g5⟩:=h.keptM hc
 obtain ⟨⟨n1,n2,n3,n4⟩,n5,n6,n7,n8,n9⟩:=h.n
 exact ⟨hz.kept hc2 (fun b e=>⟨h.k b (.inr (.inr (.inr (.inr (.inl e))))),(n9 b e).1⟩),hr,g2.chg hc2 n1,g3.chg hc2 n2,g4.chg hc2 n3,g5.chg hc2 n4,by rw [hk];exact h.k,by rw [hk];exact h.n⟩
end
section
variable {w w' w0:World} {C B5 B8 AL D M Rb X gt tcap:Nat} {p0:PB} {pt:Nat→PB} {s:DuS} {mt mt':MeterS} {K K':Nat→Prop} {L0:Int} {Lc:Nat→Int} {q0 q1 q2:Int} {cs:Array Value} {E:Nat→Addr}
theorem DAs.other {W:Nat} (h:DAs w C B5 B8 AL D M Rb X gt tcap p0 pt s mt K L0 Lc q0 q1 q2 cs E w0) (hW:¬KA C B5 B8 AL Rb X gt p0 pt s.k W) (hK:K W) (h0:w0.heap.size≤W) (hc:Chg (fun b=>b=W) w w'):DAs w' C B5 B8 AL D M Rb X gt tcap p0 pt s mt K L0 Lc q0 q1 q2 cs E w0:=by
 have hn:∀b,KA C B5 B8 AL Rb X gt p0 pt s.k b→¬b=W:=fun b hb e=>hW (e▸hb)
 exact ⟨h.z.kept hc (fun b e=>by rw [e];exact ⟨hK,h0⟩),h.r.chg hc (fun b hb=>hn b (.inr (.inr (.inr (.inr (.inl hb)))))) (hn _ (.inr (.inr (.inr (.inr (.inr rfl)))))),h.c.chg hc (hn _ (.inl rfl)),h.b5.chg hc (hn _ (.inr (.inl rfl))),h.b8.chg hc (hn _ (.inr (.inr (.inl rfl)))),h.al.chg hc (hn _ (.inr (.inr (.inr (.inl rfl))))),h.k,h.n⟩
theorem DAs.setAL {a0 a1 a2:Int} (h:DAs w C B5 B8 AL D M Rb X gt tcap p0 pt s mt K L0 Lc q0 q1 q2 cs E w0) (hg:AL≠gt) (hal:Blk w' AL 34 #[.int .i64 a0,.int .i64 a1,.int .i64 a2]) (hc:Chg (fun b=>b=AL) w w'):DAs w' C B5 B8 AL D M Rb X gt tcap p0 pt s mt K L0 Lc a0 a1 a2 cs E w0:=by
 obtain ⟨⟨n1,n2,n3,n4⟩,n5,n6,n7,n8,n9⟩:=h.n
 exact ⟨h.z.kept hc (fun b e=>by rw [e];exact ⟨h.k _ (.inr (.inr (.inr (.inl rfl)))),n8⟩),h.r.chg hc (fun b hb e=>n4 (e▸hb)) (fun e=>hg e.symm),h.c.chg hc (fun e=>n5 e.symm),h.b5.chg hc (fun e=>n6 e.symm),h.b8.chg hc (fun e=>n7 e.symm),hal,h.k,h.n⟩
end
theorem calls_one {f:Nat} {args:Array Value} {w:World} {c c2:Prop} {A B:Ending→World→Prop} (h:Calls Tryz.prog f args w fun e w'=>(¬c∧A e w')∨(c∧B e w')):(¬c→Calls Tryz.prog f args w A)∧(c→Calls Tryz.prog f args w B) :=
 ⟨fun hc=>h.mono (fun e w' q=>by rcases q with ⟨-,q⟩ | ⟨q,-⟩;exact q;exact absurd q hc),fun hc=>h.mono (fun e w' q=>by rcases q with ⟨q,-⟩ | ⟨-,q⟩;exact absurd hc q;exact q)⟩
structure DaIn (w0 w7:World) (C B5 B8 AL D M Rb X gt tcap A EB W:Nat) (p0:PB) (pt:Nat→PB) (s:DuS) (mt0:MeterS) (K':Nat→Prop) (L0:Int) (Lc:Nat→Int) (q0 q1 q2 bf:Int) (cs:Array Value) (E:Nat→Addr) (k gn g j x h:Nat) (kd ky vN vv:Int) (H:Int→Nat):Prop where
 d:DAs w7 C B5 B8 AL D M Rb X gt tcap p0 pt s mt0 K' L0 Lc q0 q1 q2 cs E w0
 a:Blk w7 A 38 #[.int .i64 kd,.int .i64 ky,.int .i64 vN]
 e:Blk w7 EB 41 #[.int .u64 (x:Int),.int .u64 vv,.int .u64 (h:Int)]
 t:Blk w7 W 34 #[.int .i64 0,.int .i64 0,.int .i64 0]
 kk:K' A∧K' EB∧K' W∧∀b,KA C B5 B8 AL Rb X gt p0 pt k b→K' b
 nx:∀b,DMX Rb X p0 pt k b→b≠A∧b≠EB∧b≠W
 wk:¬KA C B5 B8 AL Rb X gt p0 pt s.k W
 ww:w0.heap.size≤W∧AL≠W∧A≠W∧EB≠W
 sk:s.k=k∧s.gn=gn∧s.T.n=g
 y:DuCt s H (112+(j:Int))
 hx:H (x:Int)=h
 gx:h<18446744073709551616
 hb:∀q,H q<18446744073709551616
 cn:Cnt mt0 q0 q1 q2 0 0 0
 q:0≤q0∧0≤q1∧0≤q2∧q0≤10000*(j:Int)∧q1≤10000*(j:Int)∧q2≤10000*(j:Int)
 l:0≤L0∧L0≤10000*(j:Int)
 lc:∀i,i<k→0≤Lc i∧Lc i≤10000*(j:Int)
 bf:bf=L0+sumI Lc s.k
 he:ErrsAre w0 E
 vv:IntKind.u64.wrap vN=vv
 g:g≤64∧gn≤64
 j:j<120
 ag:AL≠gt
def daRel (wx w0:World) (C B5 B8 AL D M Rb X gt tcap W:Nat) (p0:PB) (pt:Nat→PB) (K':Nat→Prop) (L0:Int) (q0 q1 q2:Int) (cs:Array Value) (E:Nat→Addr) (k gn g j:Nat) (H:Int→Nat) (s':DuS) (mt':MeterS) (L0':Int) (Lc':Nat→Int) (bf' p' v' u':Int):Prop :=
 DAs wx C B5 B8 AL D M Rb X gt tcap p0 pt s' mt' K' L0' Lc' q0 q1 q2 cs E w0∧Blk wx W 34 #[.int .i64 p',.int .i64 v',.int .i64 u']∧DuCt s' H (112+(j:Int)+1)∧(s'.k=k∧s'.gn=gn∧s'.T.n=g)∧
  Cnt mt' (q0+(p'+(L0'+sumI Lc' k-bf'))) (q1+v') (q2+u') (p'+(L0'+sumI Lc' k-bf')) v' u'∧(0≤p'+(L0'+sumI Lc' k-bf')∧p'+(L0'+sumI Lc' k-bf')≤9000)∧(0≤p'∧p'≤9000)∧(0≤v'∧v'≤9000)∧(0≤u'∧u'≤9000)∧(0≤bf'∧bf'≤1000000000)∧(L0≤L0'∧L0'≤L0+9000)∧∀i,i<k→0≤Lc' i∧Lc' i≤10000*(j:Int)+9000
noncomputable def daBlk:Code:=((Tryz.f3.body.bind (findBlk 2)).getD .skip)
noncomputable def daRest:Code:=((Tryz.f3.body.bind (findSeq 67)).getD .skip)
end Go.Proofs.YtcnkgiapidlbkaaGreatDoor
