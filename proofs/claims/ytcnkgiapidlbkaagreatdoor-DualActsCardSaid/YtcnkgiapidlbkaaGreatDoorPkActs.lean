/- Texts joined: SortP Sort LeastD. No condition but those that stand within. -/
import Derived.Deep.DeepCutAuto
import Derived.Test.YtcnkgiapidlbkaaGreatDoorPkSwar
import Derived.Test.YtcnkgiapidlbkaaGreatDoorPkMeter
import Derived.Test.YtcnkgiapidlbkaaGreatDoorPkErrs
import Derived.Test.YtcnkgiapidlbkaaGreatDoorPkGroup
import Derived.Test.YtcnkgiapidlbkaaGreatDoorPkTab
import Derived.Test.YtcnkgiapidlbkaaGreatDoorPkTab2
import Derived.Test.YtcnkgiapidlbkaaGreatDoorPkTab3
import Derived.Test.YtcnkgiapidlbkaaGreatDoorPkTake
import Derived.Test.YtcnkgiapidlbkaaGreatDoorPkTabM
import Derived.Test.YtcnkgiapidlbkaaGreatDoorPkBuild
import Derived.Test.YtcnkgiapidlbkaaGreatDoorPkEvac
import Derived.Test.YtcnkgiapidlbkaaGreatDoorPkSound
import Derived.Test.YtcnkgiapidlbkaaGreatDoorPkRef09
import Derived.Test.YtcnkgiapidlbkaaGreatDoorPkEvac2
import Derived.Test.YtcnkgiapidlbkaaGreatDoorPkEvac3
import Derived.Test.YtcnkgiapidlbkaaGreatDoorPkSound2
set_option linter.unusedVariables false
set_option linter.unusedSimpArgs false
set_option maxRecDepth 100000
set_option maxHeartbeats 8000000
namespace Go.Proofs.YtcnkgiapidlbkaaGreatDoor
def insE (e:EntS):List EntS→List EntS
 | [] => [e]
 | b :: l=>if lessB e b=true then e :: b :: l else b :: insE e l
def sortE (l:List EntS):List EntS:=l.foldl (fun acc e=>insE e acc) []
theorem insE_length (e:EntS):∀l,(insE e l).length=l.length+1
 | []=>rfl
 | b :: l=>by
  unfold insE
  split
  · rfl
  · simp [insE_length e l]
theorem sortE_snoc (l:List EntS) (e:EntS):sortE (l ++ [e])=insE e (sortE l):=by unfold sortE;rw [List.foldl_append];rfl
theorem sortE_take {l:List EntS} {j:Nat} (h:j<l.length):sortE (l.take (j+1))=insE l[j] (sortE (l.take j)):=by rw [←sortE_snoc,List.take_append_getElem h]
theorem foldIns_length (l:List EntS):∀acc:List EntS,(l.foldl (fun acc e=>insE e acc) acc).length=acc.length+l.length:=by
 induction l with
 | nil=>intro acc;simp
 | cons e l ih=>intro acc;rw [List.foldl_cons,ih,insE_length,List.length_cons];omega
theorem sortE_length (l:List EntS):(sortE l).length=l.length:=by unfold sortE;rw [foldIns_length];simp
theorem insE_at {e:EntS}:∀ {l:List EntS} {k:Nat},k≤l.length→(∀i (hi:i<l.length),i<k→lessB e l[i]=false)→(∀h:k<l.length,lessB e l[k]=true)→insE e l=l.take k ++ ([e] ++ l.drop k)
 | [],k,hk,_,_=>by
  obtain rfl:k=0:=by simpa using hk
  rfl
 | b :: l,0,_,_,hs=>by
  have:lessB e b=true:=hs (by simp)
  unfold insE
  rw [if_pos this];rfl
 | b :: l,k+1,hk,hm,hs=>by
  have h0:lessB e b=false:=hm 0 (by simp) (by omega)
  unfold insE
  rw [h0,if_neg (by decide)]
  rw [insE_at (l:=l) (k:=k) (by simpa using hk) (fun i hi hik=>hm (i+1) (by simpa using hi) (by omega)) (fun h=>hs (by simpa using h))]
  rfl
theorem less_trans {a b c:EntS} (h1:lessB a b=true) (h2:lessB b c=true):lessB a c=true:=by
 unfold lessB at *
 simp only [decide_eq_true_eq] at *
 omega
def firstE (l:List EntS) (f:EntS):Option EntS:=l.find? (fun e => !lessB e f)
theorem firstE_ins (f e:EntS):∀l,firstE (insE e l) f=if lessB e f=true then firstE l f else (match firstE l f with|none=>some e|some a=>if lessB e a=true then some e else some a)
 | []=>by
  unfold insE firstE
  cases h:lessB e f <;> simp [h]
 | b :: l=>by
  have ih:=firstE_ins f e l
  unfold firstE at *
  unfold insE
  by_cases hb:lessB e b=true
  · rw [if_pos hb]
    by_cases hf:lessB e f=true
    · rw [if_pos hf,List.find?_cons]
      simp [hf]
    · have hf':lessB e f=false:=by simpa using hf
      have hbf:lessB b f=false:=by
       cases h:lessB b f with
       | false=>rfl
       | true=>exact absurd (less_trans hb h) hf
      rw [if_neg hf,List.find?_cons,List.find?_cons]
      simp [hf',hbf,hb]
  · rw [if_neg hb,List.find?_cons,List.find?_cons]
    cases hbf:lessB b f with
    | false=>simp [hb]
    | true=>simp only [Bool.not_true];exact ih
def FirstI (s:List EntS) (f:EntS) (a:EntS×Bool):Prop:=firstE s f=(if a.2=true then some a.1 else none)∧(a.2=false→a.1=EntS.zero)
theorem FirstI.step {s:List EntS} {f:EntS} {a:EntS×Bool} (h:FirstI s f a) (e:EntS):FirstI (insE e s) f (leastStep f a e):=by
 obtain ⟨h1,h2⟩:=h
 unfold FirstI
 rw [firstE_ins,h1]
 unfold leastStep
 obtain ⟨x,b⟩:=a
 cases hf:lessB e f <;> cases b <;> simp_all
 cases hx:lessB e x <;> simp
theorem FirstI.all {f:EntS} (l:List EntS):∀ (s:List EntS) (a:EntS×Bool),FirstI s f a→FirstI (l.foldl (fun acc e=>insE e acc) s) f (l.foldl (leastStep f) a):=by
 induction l with
 | nil=>intro s a h;exact h
 | cons e l ih=>intro s a h;exact ih _ _ (h.step e)
theorem least_first (l:List EntS) (f:EntS):FirstI (sortE l) f (TabS.leastL l f):=FirstI.all l [] (EntS.zero,false) ⟨rfl,fun _=>rfl⟩
open Go.RowKit Go.Proofs
theorem infoEs:(Tryz.prog.info? 41).map (fun i=>(i.zero,i.size,i.bytes))=some (some (.agg #[.int .u64 0,.int .u64 0,.int .u64 0]),3,24):=by kernel_rfl
theorem entV_oneS (l:List EntS):∀u∈entV l,u.oneCell'=true:=by
 intro u hu
 unfold entV at hu
 simp only [List.mem_flatMap,e3,List.mem_cons,List.not_mem_nil,or_false] at hu
 obtain ⟨e,-,rfl|rfl|rfl⟩:=hu <;> rfl
theorem Chg.of_grownS {w w':World} {row:Option Nat} (hg:w.grownBy w' row):Chg (fun b=>row=some b) w w':=⟨hg.os,hg.tape,hg.output,hg.size,fun k hk hx=>hg.block k hk (fun e=>hx e.symm)⟩
theorem wp_append_entsS {w:World} {o:Oper} {a:Act} {K:Act→World→Prop} {Q:Exit→Act→World→Prop} (s x:Operand)
 (ho:o.op = .call { callee := .builtin .append,args := #[s,x],argTypes := #[63,63]})
 (base:Nat) (v:Value) (l1:List EntS) (n1:Nat) (hn1:n1=l1.length) (hs:a.eval s=v) (hown:w.ownsRow base 41 3 v n1 (entV l1))
 (ad:Addr) (m c:Nat) (l2:List EntS) (hm:l2.length=m) (hx:a.eval x = .slice (some ad) m c) (hc:∀j u,(entV l2)[j]?=some u→w.cell? (ad.add j)=some u) (hlen:n1+m≤1000000) (hbase:base≤w.heap.size)
 (h:∀v' w',w'.ownsRow base 41 3 v' (n1+m) (entV (l1 ++ l2))→Chg (fun b=>base≤b) w w'→w.grownBy w' v.ownBlock→K (a.put o.dst v') w'):o.wp Tryz.prog a w K Q:=by
 obtain ⟨i0,hi,hz0,hz1,hz2⟩:=info_parts infoEs
 subst hn1
 refine wp_append_own _ _ _ 63 ho base 41 i0 (.agg #[.int .u64 0,.int .u64 0,.int .u64 0]) 3 24 Tryz.underlying63 hi hz0 hz1 hz2 rfl (by decide) _ _ _ hs hown ad m c (entV l2) hx (by rw [entV_length,hm]) hc (entV_oneS _) (by unfold maxLen;omega) (by omega) hbase ?_
 intro v' w' h1 h2 _
 exact h v' w' (by rw [entV_append];exact h1) ((Chg.of_grownS h2).mono (fun b _ e=>(hown.lt b e).1)) h2
theorem blk_cells3 {w:World} {B:Nat} {T:TypeId} {x y z:Value} (h:Blk w B T #[x,y,z]):∀j u,[x,y,z][j]?=some u→w.cell? ((⟨B,0,none⟩:Addr).add j)=some u:=by
 intro j u hj
 obtain ⟨h0,h1,h2⟩:=cells3 h
 match j,hj with
 | 0,e=>simp only [List.getElem?_cons_zero,Option.some.injEq] at e;subst e;exact h0
 | 1,e=>simp only [List.getElem?_cons_succ,List.getElem?_cons_zero,Option.some.injEq] at e;subst e;simpa [Addr.add] using h1
 | 2,e=>simp only [List.getElem?_cons_succ,List.getElem?_cons_zero,Option.some.injEq] at e;subst e;simpa [Addr.add] using h2
 | n+3,e=>simp at e
theorem sliceE_to (b o n cap i:Nat) (h:i≤cap) (w:World):(Instr.slice 63 (.slice (some ⟨b,o,none⟩) n cap) none (some (.int .i64 (i:Int))) none).run Tryz.prog w = .ok (.slice (some ⟨b,o,none⟩) i cap) w:=by
 have hsz:=Tryz.sizeOf41 w
 have hb:(Instr.sliceBounds true n cap none (some (.int .i64 (i:Int))) none).run Tryz.prog w = .ok (0,i,cap) w:=by
  simp [Instr.sliceBounds,go_sem,h]
  try omega
 simp only [Instr.slice,Sem.run_bind,run_underlying Tryz.underlying63,Result.andThen,hb,hsz,Sem.run_pure]
 by_cases hc:cap=0
 · subst hc
   obtain rfl:i=0:=by omega
   rfl
 · rw [if_neg (by omega)]
   simp [Addr.add]
theorem sliceE_from (b n cap i:Nat) (h:i≤n) (hn:n≤cap) (w:World):(Instr.slice 63 (.slice (some ⟨b,0,none⟩) n cap) (some (.int .i64 (i:Int))) none none).run Tryz.prog w = .ok (.slice (some (if cap=i then ⟨b,0,none⟩ else ⟨b,i*3,none⟩)) (n-i) (cap-i)) w:=by
 have hsz:=Tryz.sizeOf41 w
 have hb:(Instr.sliceBounds true n cap (some (.int .i64 (i:Int))) none none).run Tryz.prog w = .ok (i,n,cap) w:=by
  simp [Instr.sliceBounds,go_sem,h]
  try omega
 by_cases hc:cap=i
 · simp only [Instr.slice,Sem.run_bind,run_underlying Tryz.underlying63,Result.andThen,hb,hsz,Sem.run_pure];rw [if_pos hc,if_pos hc]
 · simp only [Instr.slice,Sem.run_bind,run_underlying Tryz.underlying63,Result.andThen,hb,hsz,Sem.run_pure];rw [if_neg hc,if_neg hc];simp [Addr.add];try omega
theorem ownsRow_at {w:World} {base size n g cap:Nat} {e:TypeId} {xs:List Value} (h:w.ownsRow base e size (.slice (some ⟨g,0,none⟩) n cap) n xs):base≤g∧g<w.heap.size∧n≤cap:=by
 rcases h.2 with ⟨e,-⟩ | ⟨g',cap',cur,e,hb,hg,hc,-⟩
 · cases e
 · cases e
   exact ⟨hb,(Array.getElem?_eq_some_iff.1 hg).1,hc⟩
theorem ownsRow_some {w:World} {base size n:Nat} {e:TypeId} {v:Value} {xs:List Value} (h:w.ownsRow base e size v n xs) (hn:1≤n):∃g cap,v = .slice (some ⟨g,0,none⟩) n cap:=by
 rcases h.2 with ⟨e,h0⟩ | ⟨g',cap',cur,e,hb,hg,hc,-⟩
 · omega
 · exact ⟨_,_,e⟩
theorem entV_take (l:List EntS) (k i:Nat) (x:Value) (h:(entV (l.take k))[i]?=some x):(entV l)[i]?=some x:=by
 have e:entV l=entV (l.take k) ++ entV (l.drop k):=by rw [←entV_append,List.take_append_drop]
 rw [e,List.getElem?_append_left (List.getElem?_eq_some_iff.1 h).1];exact h
theorem entV_drop (l:List EntS) (k i:Nat) (hk:k≤l.length) (x:Value) (h:(entV (l.drop k))[i]?=some x):(entV l)[k*3+i]?=some x:=by
 have e:entV l=entV (l.take k) ++ entV (l.drop k):=by rw [←entV_append,List.take_append_drop]
 have hl:(entV (l.take k)).length=k*3:=by rw [entV_length,List.length_take,Nat.min_eq_left hk]
 rw [e,List.getElem?_append_right (by omega),hl,Nat.add_sub_cancel_left];exact h
theorem sorted_any (v:Value) (l:List EntS) (base:Nat) (w:World) (h:w.ownsRow base 41 3 v l.length (entV l)) (hl:l.length≤1000) :
 Calls Tryz.prog 63 #[v] w fun e w' => ∃v',e = .returned v'∧w'.ownsRow w.heap.size 41 3 v' (sortE l).length (entV (sortE l))∧Below w.heap.size w w':=by
 obtain ⟨a0,cap0,rfl⟩:=ownsRow_slice h
 have HL:=hiq h
 clear h
 go_enter Tryz.func63,Tryz.ntmps63
 go_wp2
 go_loopw [10,3] (fun v10 v3 wr => ∃j:Nat,j≤l.length∧v10 = .int .i64 (j:Int)∧∃g cap,v3 = .slice (some ⟨g,0,none⟩) j cap∧wr.ownsRow w.heap.size 41 3 v3 j (entV (sortE (l.take j)))∧Below w.heap.size w wr) (fun v10 _ _=>l.length-(intOf v10).toNat)
 case atStart=>exact ⟨0,Nat.zero_le _,rfl,w.heap.size,0,rfl,⟨rfl,.inr ⟨w.heap.size,0,#[],rfl,Nat.le_refl _,Blk.new _ _ _,by simp,by decide,rfl,by simp [sortE,entV]⟩⟩,by go_grown⟩
 case round =>
  obtain ⟨j,hj,rfl,g,cap,rfl,hrow,hB⟩:=hrel
  have KR:=hiq hrow
  have KB:=hiq hB
  have hwz:=hB.size
  clear hrow hB
  by_cases hlt:j<l.length
  · have hltI:(j:Int)<(l.length:Int):=by omega
    obtain ⟨ea',ecap',e,-,hrow⟩:=ents_own (ownsRow_later HL.out (KB.out.mono (Nat.le_refl _)))
    cases e
    obtain ⟨b,rfl,hbb,hbz,hcl⟩:=hrow (fun e=>by rw [e] at hlt;exact absurd hlt (by simp))
    obtain ⟨g0,g1,g2⟩:=hcl j hlt
    have HST:=hiq (sortE_take hlt)
    have hlen:(sortE (l.take j)).length=j:=by rw [sortE_length,List.length_take];omega
    generalize l[j]=en at g0 g1 g2 HST
    generalize sortE (l.take j)=out at *
    clear hcl hrow
    go_upto_region 5 with (fail)
    refine wp_at (fun w2 hw2=>?_)
    have hb2:Below wr.heap.size wr w2:=by rw [hw2];go_grown
    have B2:=hiq (KB.out.trans (hb2.mono KB.out.size))
    have R2:=hiq (ownsRow_later KR.out hb2)
    have P2:=hiq (show Blk w2 wr.heap.size 41 #[.int .u64 en.key,.int .u64 en.val,.int .u64 en.hash] by rw [hw2];exact Blk.new _ _ _)
    obtain ⟨eb,heb⟩:=exq wr.heap.size
    rw [←heb] at P2 ⊢
    replace hw2:=hiq hw2
    have HEB:=hiq heb
    have hebw:w.heap.size≤eb:=by omega
    clear g0 g1 g2 hbz hb2 heb KR
    go_wp2
    go_loopw [6] (fun v6 wx => ∃k:Nat,k≤j∧v6 = .int .i64 (k:Int)∧Below w2.heap.size w2 wx∧∀i (hi:i<out.length),i<k→lessB en out[i]=false) (fun v6 _=>j-(intOf v6).toNat)
    case atStart=>exact ⟨0,Nat.zero_le _,rfl,Below.refl _ _,fun i hi h=>by omega⟩
    case round =>
     obtain ⟨k,hk,rfl,hB,hcl⟩:=hrel
     have KC:=hiq hcl
     have KB2:=hiq hB
     have KR:=hiq (ownsRow_later R2.out hB)
     have KP:=hiq (P2.out.below hB P2.out.lt)
     have KW:=hiq (B2.out.trans (hB.mono B2.out.size))
     obtain ⟨p0,p1,p2⟩:=cells3 KP.out
     have zP:=KP.out.lt
     have hzx:=hB.size
     clear hcl hB
     obtain ⟨st,hst⟩:∃st:Bool,st=decide (∃h:k<out.length,lessB en out[k]=false):=⟨_,rfl⟩
     obtain ⟨wA,hwA⟩:=exq wr
     subst hwA
     go_upto_region 6 with (fail)
     go_cut [26] (fun v26 wx=>v26 = .bool st∧Below wA.heap.size wA wx)
     case first =>
      by_cases hko:k<j
      · have hkI:(k:Int)<(j:Int):=by omega
        obtain ⟨ga,gcap,e,-,hrow⟩:=ents_own KR.out
        cases e
        obtain ⟨gb,e,hgb,hgz,hgc⟩:=hrow (fun e=>by rw [e] at hlen;simp at hlen;omega)
        cases e
        obtain ⟨c0,c1,c2⟩:=hgc k (by omega)
        have hst2:st = !lessB en (out[k]'(by omega)):=by
         rw [hst]
         cases hle:lessB en (out[k]'(by omega)) with
         | true=>simp [hle]
         | false=>simp [hle];omega
        generalize (out[k]'(by omega))=ok at c0 c1 c2 hst2
        have BF:=hiq (fun (w':World)=>before_any en ok w')
        have HS:=hiq hst2
        clear hst hst2 hrow hgc
        generalize lessB en ok=lb at BF HS
        have zeb:eb<wA.heap.size:=zP
        refine wp_region_seq (fun _=>False) #[⟨0,0,16384,64,0⟩,⟨0,0,32768,8,0⟩,⟨2,2,65536,32768,0⟩,⟨5,7,131072,81920,0⟩,⟨8,15,262144,131072,0⟩,⟨16,31,524288,262176,1⟩,⟨16,31,1048576,262152,0⟩,⟨16,31,2097152,262208,0⟩,⟨208,223,4194304,3407872,0⟩,⟨272,479,8388608,4456448,1⟩,⟨560,1023,16777216,9175040,3⟩,⟨1040,2047,33554432,17039360,0⟩,⟨2064,4095,67108864,33816576,0⟩] 544 [(0,0),(1,0),(2,0),(3,0),(4,0),(5,1),(6,0),(7,0),(8,0),(9,1),(10,3),(11,0),(12,0)] (by kernel_rfl) (by kernel_rfl) (by kernel_rfl) (by kernel_rfl) (by kernel_rfl) (by kernel_rfl) (fun c a d v w h=>by cases d <;> exact h) ?_
        refine zqC ?_;refine zqC ?_;refine zqC ?_;refine zqC ?_;refine zqC ?_
        first
         | (refine zqK ?_)
         | (refine zqL [_,_,_] Tryz.underlying41 ?_)
        try refine zqP ?_
        first
         | (refine zqK ?_)
         | (refine zqA ?_)
        try refine zqP ?_
        first
         | (refine zqK ?_)
         | (refine zqA ?_)
        try refine zqP ?_
        first
         | (refine zqK ?_)
         | (refine zqA ?_)
        try refine zqP ?_
        first
         | (refine zqK ?_)
         | (refine zqL [_,_,_] Tryz.underlying41 ?_)
        try refine zqP ?_
        first
         | (refine zqK ?_)
         | (refine zqE fun K hK=>?_;go_wp2_with (go_at_call 64;(with_reducible refine (BF.out _).mono ?_);rintro e w5 ⟨rfl,hb5⟩);refine hK.out _ _ ?_;clear hK K)
        try refine zqP ?_
        first
         | (refine zqK ?_)
         | (refine zqA ?_)
        try refine zqP ?_;refine zqC ?_
        refine seq_nil ?_
        go_wp2
        go_meet
        exact ⟨by rw [HS.out],Below.undrew hb5⟩
      · obtain rfl:k=j:=by omega
        have HS:=hiq (show st=false by rw [hst,decide_eq_false_iff_not];rintro ⟨h,-⟩;omega)
        clear hst
        refine wp_region_seq (fun _=>False) #[⟨0,0,16384,64,0⟩,⟨0,0,32768,8,0⟩,⟨2,2,65536,32768,0⟩,⟨5,7,131072,81920,0⟩,⟨8,15,262144,131072,0⟩,⟨16,31,524288,262176,1⟩,⟨16,31,1048576,262152,0⟩,⟨16,31,2097152,262208,0⟩,⟨208,223,4194304,3407872,0⟩,⟨272,479,8388608,4456448,1⟩,⟨560,1023,16777216,9175040,3⟩,⟨1040,2047,33554432,17039360,0⟩,⟨2064,4095,67108864,33816576,0⟩] 544 [(0,0),(1,0),(2,0),(3,0),(4,0),(5,1),(6,0),(7,0),(8,0),(9,1),(10,3),(11,0),(12,0)] (by kernel_rfl) (by kernel_rfl) (by kernel_rfl) (by kernel_rfl) (by kernel_rfl) (by kernel_rfl) (fun c a d v w h=>by cases d <;> exact h) ?_
        refine zqC ?_;refine zqC ?_;refine zqC ?_;refine zqC ?_;refine zqC ?_
        first
         | (refine zqK ?_)
         | (refine zqL [_,_,_] Tryz.underlying41 ?_)
        try refine zqP ?_
        first
         | (refine zqK ?_)
         | (refine zqA ?_)
        try refine zqP ?_
        first
         | (refine zqK ?_)
         | (refine zqA ?_)
        try refine zqP ?_
        first
         | (refine zqK ?_)
         | (refine zqA ?_)
        try refine zqP ?_
        first
         | (refine zqK ?_)
         | (refine zqL [_,_,_] Tryz.underlying41 ?_)
        try refine zqP ?_
        first
         | (refine zqK ?_)
         | (refine zqE fun K hK=>?_;go_wp2_with (fail);refine hK.out _ _ ?_;clear hK K)
        try refine zqP ?_
        first
         | (refine zqK ?_)
         | (refine zqA ?_)
        try refine zqP ?_;refine zqC ?_
        refine seq_nil ?_
        go_wp2
        go_meet
        exact ⟨by rw [HS.out],Below.refl _ _ |>.drew⟩
     case rest =>
      obtain ⟨rfl,hBu⟩:=hcut
      have UB:=hiq hBu
      clear hBu p0 p1 p2 zP
      obtain ⟨u,hu⟩:=exq wc
      subst hu
      have UR:=hiq (ownsRow_later KR.out UB.out)
      have UP:=hiq (KP.out.below UB.out KP.out.lt)
      have UW:=hiq (KW.out.trans (UB.out.mono KW.out.size))
      have UB2:=hiq (KB2.out.trans (UB.out.mono KB2.out.size))
      cases hsb:st with
      | true =>
       have hh:∃h:k<out.length,lessB en out[k]=false:=by rw [hsb] at hst;exact of_decide_eq_true hst.symm
       have HK2:=hiq (show ∀i (hi:i<out.length),i<k+1→lessB en out[i]=false from fun i hi h=>by
        by_cases e:i=k
        · subst e;exact hh.2
        · exact KC.out i hi (by omega))
       have hkj:k<j:=by obtain ⟨h,-⟩:=hh;omega
       clear hh hst hsb
       go_wp2
       go_roundw
       case rel=>exact ⟨k+1,by omega,by go_num,UB2.out,HK2.out⟩
       case measure=>simp [intOf];omega
      | false =>
       have hno:¬∃h:k<out.length,lessB en out[k]=false:=by rw [hsb] at hst;exact of_decide_eq_false hst.symm
       have HIN:=hiq (show insE en out=out.take k ++ ([en] ++ out.drop k) from insE_at (by omega) (fun i hi hik=>KC.out i hi hik) (fun h=>by
        cases e:lessB en out[k] with
        | true=>rfl
        | false=>exact absurd ⟨h,e⟩ hno))
       clear hst hsb hno
       obtain ⟨p0,p1,p2⟩:=cells3 UP.out
       have zP:=UP.out.lt
       obtain ⟨hwg,hgz,hcapj⟩:=ownsRow_at UR.out
       have hlen2:=hlen
       have sl1:=sliceE_to g 0 j cap k (by omega)
       have sl2:=sliceE_from g j cap k hk hcapj
       obtain ⟨ad,had⟩:∃ad:Addr,ad=if cap=k then ⟨g,0,none⟩ else ⟨g,k*3,none⟩:=⟨_,rfl⟩
       rw [←had] at sl2
       have HC0:∀w',Below u.heap.size u w'→∀i x,(entV out)[i]?=some x→w'.cell? ((⟨g,0,none⟩:Addr).add i)=some x:=fun w' hb i x hx=>by
        have:=UR.out.cells (g:=g) rfl i x hx
        exact (hb.cell (p:=(⟨g,0,none⟩:Addr).add i) (World.block_lt_of_cell? _ _ this)).trans this
       have HC1:Hid (∀w',Below u.heap.size u w'→∀i x,(entV (out.take k))[i]?=some x→w'.cell? ((⟨g,0,none⟩:Addr).add i)=some x):=hiq fun w' hb i x hx=>HC0 w' hb i x (entV_take out k i x hx)
       have HC2:Hid (∀w',Below u.heap.size u w'→∀i x,(entV (out.drop k))[i]?=some x→w'.cell? (ad.add i)=some x):=hiq fun w' hb i x hx=>by
        by_cases hc:cap=k
        · have h0:out.drop k = []:=List.drop_eq_nil_of_le (by omega)
          rw [h0] at hx;simp [entV] at hx
        · rw [had,if_neg hc,show (⟨g,k*3,none⟩:Addr).add i=(⟨g,0,none⟩:Addr).add (k*3+i) by by_cases hi0:i=0 <;> by_cases hk0:k=0 <;> simp [Addr.add,hi0,hk0] <;> omega]
          exact HC0 w' hb _ x (entV_drop out k i (by omega) x hx)
       have FIN:Hid (∀v3 w3,w3.ownsRow u.heap.size 41 3 v3 (0+k+1+(j-k)) (entV ([] ++ out.take k ++ [en] ++ out.drop k))→Below u.heap.size u w3→∃j1:Nat,j1≤l.length∧Value.int .i64 ((j:Int)+1) = .int .i64 (j1:Int)∧∃g cap,v3 = .slice (some ⟨g,0,none⟩) j1 cap∧w3.ownsRow w.heap.size 41 3 v3 j1 (entV (sortE (l.take j1)))∧Below w.heap.size w w3):=hiq fun v3 w3 h3 hb3=>by
        rw [show 0+k+1+(j-k)=j+1 by omega,show [] ++ out.take k ++ [en] ++ out.drop k=insE en out by rw [HIN.out];simp,←HST.out] at h3
        obtain ⟨g3,cap3,e3⟩:=ownsRow_some h3 (by omega)
        exact ⟨j+1,by omega,by rw [Int.natCast_add];rfl,g3,cap3,e3,ownsRow_base h3 UW.out.size,UW.out.trans (hb3.mono UW.out.size)⟩
       clear had HC0
       have hnX:¬u.heap.size≤eb:=Nat.not_le.2 UP.out.lt
       go_upto_region 8 with (fail)
       refine wp_region_T (fun b=>u.heap.size≤b) #[⟨0,0,536870912,0,2⟩,⟨0,0,1073741824,8,0⟩,⟨0,0,2147483648,64,0⟩,⟨6,6,4294967296,3221225472,0⟩,⟨9,15,8589934592,4831838208,2⟩,⟨0,0,17179869184,32,1⟩,⟨32,32,34359738368,17179869184,3⟩,⟨80,127,68719476736,42949672960,3⟩,⟨0,0,137438953472,8,0⟩,⟨0,0,274877906944,64,0⟩,⟨768,768,549755813888,412316860416,0⟩,⟨1152,2047,1099511627776,618475290624,3⟩,⟨4095,4095,8,1099511627776,0⟩] 32 (.step 1 0 (.step 2 0 (.step 3 0 (.step 5 1 (.step 8 0 (.step 9 0 (.step 10 0 (.fork (.alt 0 (.fork (.alt 4 (.step 6 3 (.step 7 3 (.step 11 3 (.step 12 0 Plan.done)))) (.alt 6 (.step 4 2 (.step 7 3 (.step 11 3 (.step 12 0 Plan.done)))) Plan.none))) (.alt 6 (.step 0 2 (.step 4 2 (.step 7 3 (.step 11 3 (.step 12 0 Plan.done))))) Plan.none)))))))))) (by kernel_rfl) (by kernel_rfl) (by kernel_rfl) (by kernel_rfl) (by kernel_rfl) (by kernel_rfl) (fun c a d v w h=>by cases d <;> exact h) ?_
       refine ztC ?_;refine ztC ?_;refine ztC ?_
       refine ztL [_,_,_] Tryz.underlying41 ?_
       try refine ztP ?_;refine ztC ?_;refine ztC ?_;refine ztC ?_
       refine zt2 (fun K hK=>?_) fun K hK=>?_
       (go_wp2_with (fail);refine hkI hK (h:=?_);clear hK K)
       try refine ztP ?_
       refine zt2 (fun K hK=>?_) fun K hK=>?_
       ((first|(refine wp_append_entsS _ _ rfl u.heap.size _ [] 0 rfl rfl ⟨rfl,.inr ⟨_,0,#[],rfl,(by first|exact Nat.le_refl _|simp),(by first|exact Blk.new _ _ _|exact (Blk.new _ _ _).alloc _|exact Blk.new_at (by simp)),by simp,by decide,rfl,rfl⟩⟩ ⟨g,0,none⟩ k cap (out.take k) (by rw [List.length_take];omega) rfl (HC1.out _ (by go_grown)) (by omega) (by simp;try omega) ?_;intro v1 w1 hr1 hc1 hg1;have R1:=hiq hr1;have B1:=hiq (Below.trans (show Below u.heap.size u _ from by go_grown) (hc1.below (n:=u.heap.size) (by simp;try omega) (fun b hb e=>absurd e (by omega))));(try have E1:=hiq (show Blk w1 u.heap.size 41 #[.int .u64 en.key,.int .u64 en.val,.int .u64 en.hash] from Blk.grown (by first|exact Blk.new _ _ _|exact (Blk.new _ _ _).alloc _|exact Blk.new_at (by simp)) hg1 (fun e=>absurd (Option.some.inj (show some (u.heap.size+1)=some u.heap.size from e)) (by omega))));(try have E1:=hiq (show Blk w1 (u.heap.size+1) 41 #[.int .u64 en.key,.int .u64 en.val,.int .u64 en.hash] from Blk.grown (by first|exact Blk.new _ _ _|exact (Blk.new _ _ _).alloc _|exact Blk.new_at (by simp)) hg1 (fun e=>absurd (Option.some.inj (show some u.heap.size=some (u.heap.size+1) from e)) (by omega))));clear hr1 hg1)|(refine wp_append_entsS _ _ rfl u.heap.size _ ([] ++ out.take k) (0+k) (by rw [List.nil_append,List.length_take];omega) rfl (by first|exact R1.out|exact ownsRow_later R1.out ((Below.refl _ _).alloc (Nat.le_refl _) _)) ⟨_,0,none⟩ 1 1 [en] rfl rfl (by first|exact cell3_new w1 _ _ _ _|exact blk_cells3 E1.out) (by omega) (by have:=B1.out.size;simp;try omega) ?_;intro v2 w2' hr2 hc2 hg2;have R2':=hiq hr2;have B2':=hiq (Below.trans (show Below u.heap.size u _ by first|exact B1.out|exact B1.out.alloc B1.out.size _) (hc2.below (n:=u.heap.size) (by have:=B1.out.size;simp;try omega) (fun b hb e=>absurd e (by omega))));clear hr2 hg2)|(refine wp_append_entsS _ _ rfl u.heap.size _ ([] ++ out.take k ++ [en]) (0+k+1) (by simp [List.length_take];omega) rfl R2'.out ad (j-k) (cap-k) (out.drop k) (by rw [List.length_drop];omega) rfl (HC2.out _ B2'.out) (by omega) B2'.out.size ?_;intro v3 w3 hr3 hc3 hg3;have R3:=hiq hr3;have B3:=hiq (B2'.out.trans (hc3.below (n:=u.heap.size) B2'.out.size (fun b hb e=>absurd e (by omega))));clear hr3 hg3));refine hkI hK (h:=?_);clear hK K)
       try refine ztP ?_
       refine ztE fun K hK=>?_;go_wp2_with (fail);refine hK.out _ _ ?_;clear hK K
       try refine ztP ?_
       refine ztE fun K hK=>?_;(first|(refine wp_append_entsS _ _ rfl u.heap.size _ [] 0 rfl rfl ⟨rfl,.inr ⟨_,0,#[],rfl,(by first|exact Nat.le_refl _|simp),(by first|exact Blk.new _ _ _|exact (Blk.new _ _ _).alloc _|exact Blk.new_at (by simp)),by simp,by decide,rfl,rfl⟩⟩ ⟨g,0,none⟩ k cap (out.take k) (by rw [List.length_take];omega) rfl (HC1.out _ (by go_grown)) (by omega) (by simp;try omega) ?_;intro v1 w1 hr1 hc1 hg1;have R1:=hiq hr1;have B1:=hiq (Below.trans (show Below u.heap.size u _ from by go_grown) (hc1.below (n:=u.heap.size) (by simp;try omega) (fun b hb e=>absurd e (by omega))));(try have E1:=hiq (show Blk w1 u.heap.size 41 #[.int .u64 en.key,.int .u64 en.val,.int .u64 en.hash] from Blk.grown (by first|exact Blk.new _ _ _|exact (Blk.new _ _ _).alloc _|exact Blk.new_at (by simp)) hg1 (fun e=>absurd (Option.some.inj (show some (u.heap.size+1)=some u.heap.size from e)) (by omega))));(try have E1:=hiq (show Blk w1 (u.heap.size+1) 41 #[.int .u64 en.key,.int .u64 en.val,.int .u64 en.hash] from Blk.grown (by first|exact Blk.new _ _ _|exact (Blk.new _ _ _).alloc _|exact Blk.new_at (by simp)) hg1 (fun e=>absurd (Option.some.inj (show some u.heap.size=some (u.heap.size+1) from e)) (by omega))));clear hr1 hg1)|(refine wp_append_entsS _ _ rfl u.heap.size _ ([] ++ out.take k) (0+k) (by rw [List.nil_append,List.length_take];omega) rfl (by first|exact R1.out|exact ownsRow_later R1.out ((Below.refl _ _).alloc (Nat.le_refl _) _)) ⟨_,0,none⟩ 1 1 [en] rfl rfl (by first|exact cell3_new w1 _ _ _ _|exact blk_cells3 E1.out) (by omega) (by have:=B1.out.size;simp;try omega) ?_;intro v2 w2' hr2 hc2 hg2;have R2':=hiq hr2;have B2':=hiq (Below.trans (show Below u.heap.size u _ by first|exact B1.out|exact B1.out.alloc B1.out.size _) (hc2.below (n:=u.heap.size) (by have:=B1.out.size;simp;try omega) (fun b hb e=>absurd e (by omega))));clear hr2 hg2)|(refine wp_append_entsS _ _ rfl u.heap.size _ ([] ++ out.take k ++ [en]) (0+k+1) (by simp [List.length_take];omega) rfl R2'.out ad (j-k) (cap-k) (out.drop k) (by rw [List.length_drop];omega) rfl (HC2.out _ B2'.out) (by omega) B2'.out.size ?_;intro v3 w3 hr3 hc3 hg3;have R3:=hiq hr3;have B3:=hiq (B2'.out.trans (hc3.below (n:=u.heap.size) B2'.out.size (fun b hb e=>absurd e (by omega))));clear hr3 hg3));refine hK.out _ _ ?_;clear hK K
       try refine ztP ?_
       refine ztE fun K hK=>?_;(first|(refine wp_append_entsS _ _ rfl u.heap.size _ [] 0 rfl rfl ⟨rfl,.inr ⟨_,0,#[],rfl,(by first|exact Nat.le_refl _|simp),(by first|exact Blk.new _ _ _|exact (Blk.new _ _ _).alloc _|exact Blk.new_at (by simp)),by simp,by decide,rfl,rfl⟩⟩ ⟨g,0,none⟩ k cap (out.take k) (by rw [List.length_take];omega) rfl (HC1.out _ (by go_grown)) (by omega) (by simp;try omega) ?_;intro v1 w1 hr1 hc1 hg1;have R1:=hiq hr1;have B1:=hiq (Below.trans (show Below u.heap.size u _ from by go_grown) (hc1.below (n:=u.heap.size) (by simp;try omega) (fun b hb e=>absurd e (by omega))));(try have E1:=hiq (show Blk w1 u.heap.size 41 #[.int .u64 en.key,.int .u64 en.val,.int .u64 en.hash] from Blk.grown (by first|exact Blk.new _ _ _|exact (Blk.new _ _ _).alloc _|exact Blk.new_at (by simp)) hg1 (fun e=>absurd (Option.some.inj (show some (u.heap.size+1)=some u.heap.size from e)) (by omega))));(try have E1:=hiq (show Blk w1 (u.heap.size+1) 41 #[.int .u64 en.key,.int .u64 en.val,.int .u64 en.hash] from Blk.grown (by first|exact Blk.new _ _ _|exact (Blk.new _ _ _).alloc _|exact Blk.new_at (by simp)) hg1 (fun e=>absurd (Option.some.inj (show some u.heap.size=some (u.heap.size+1) from e)) (by omega))));clear hr1 hg1)|(refine wp_append_entsS _ _ rfl u.heap.size _ ([] ++ out.take k) (0+k) (by rw [List.nil_append,List.length_take];omega) rfl (by first|exact R1.out|exact ownsRow_later R1.out ((Below.refl _ _).alloc (Nat.le_refl _) _)) ⟨_,0,none⟩ 1 1 [en] rfl rfl (by first|exact cell3_new w1 _ _ _ _|exact blk_cells3 E1.out) (by omega) (by have:=B1.out.size;simp;try omega) ?_;intro v2 w2' hr2 hc2 hg2;have R2':=hiq hr2;have B2':=hiq (Below.trans (show Below u.heap.size u _ by first|exact B1.out|exact B1.out.alloc B1.out.size _) (hc2.below (n:=u.heap.size) (by have:=B1.out.size;simp;try omega) (fun b hb e=>absurd e (by omega))));clear hr2 hg2)|(refine wp_append_entsS _ _ rfl u.heap.size _ ([] ++ out.take k ++ [en]) (0+k+1) (by simp [List.length_take];omega) rfl R2'.out ad (j-k) (cap-k) (out.drop k) (by rw [List.length_drop];omega) rfl (HC2.out _ B2'.out) (by omega) B2'.out.size ?_;intro v3 w3 hr3 hc3 hg3;have R3:=hiq hr3;have B3:=hiq (B2'.out.trans (hc3.below (n:=u.heap.size) B2'.out.size (fun b hb e=>absurd e (by omega))));clear hr3 hg3));refine hK.out _ _ ?_;clear hK K
       try refine ztP ?_;refine ztC ?_
       refine T_done ?_
       rotate_left 1
       (go_wp2_with (fail);refine hkI hK (h:=?_);clear hK K)
       try refine ztP ?_
       refine ztD fun K hK=>?_;(first|(refine wp_append_entsS _ _ rfl u.heap.size _ [] 0 rfl rfl ⟨rfl,.inr ⟨_,0,#[],rfl,(by first|exact Nat.le_refl _|simp),(by first|exact Blk.new _ _ _|exact (Blk.new _ _ _).alloc _|exact Blk.new_at (by simp)),by simp,by decide,rfl,rfl⟩⟩ ⟨g,0,none⟩ k cap (out.take k) (by rw [List.length_take];omega) rfl (HC1.out _ (by go_grown)) (by omega) (by simp;try omega) ?_;intro v1 w1 hr1 hc1 hg1;have R1:=hiq hr1;have B1:=hiq (Below.trans (show Below u.heap.size u _ from by go_grown) (hc1.below (n:=u.heap.size) (by simp;try omega) (fun b hb e=>absurd e (by omega))));(try have E1:=hiq (show Blk w1 u.heap.size 41 #[.int .u64 en.key,.int .u64 en.val,.int .u64 en.hash] from Blk.grown (by first|exact Blk.new _ _ _|exact (Blk.new _ _ _).alloc _|exact Blk.new_at (by simp)) hg1 (fun e=>absurd (Option.some.inj (show some (u.heap.size+1)=some u.heap.size from e)) (by omega))));(try have E1:=hiq (show Blk w1 (u.heap.size+1) 41 #[.int .u64 en.key,.int .u64 en.val,.int .u64 en.hash] from Blk.grown (by first|exact Blk.new _ _ _|exact (Blk.new _ _ _).alloc _|exact Blk.new_at (by simp)) hg1 (fun e=>absurd (Option.some.inj (show some u.heap.size=some (u.heap.size+1) from e)) (by omega))));clear hr1 hg1)|(refine wp_append_entsS _ _ rfl u.heap.size _ ([] ++ out.take k) (0+k) (by rw [List.nil_append,List.length_take];omega) rfl (by first|exact R1.out|exact ownsRow_later R1.out ((Below.refl _ _).alloc (Nat.le_refl _) _)) ⟨_,0,none⟩ 1 1 [en] rfl rfl (by first|exact cell3_new w1 _ _ _ _|exact blk_cells3 E1.out) (by omega) (by have:=B1.out.size;simp;try omega) ?_;intro v2 w2' hr2 hc2 hg2;have R2':=hiq hr2;have B2':=hiq (Below.trans (show Below u.heap.size u _ by first|exact B1.out|exact B1.out.alloc B1.out.size _) (hc2.below (n:=u.heap.size) (by have:=B1.out.size;simp;try omega) (fun b hb e=>absurd e (by omega))));clear hr2 hg2)|(refine wp_append_entsS _ _ rfl u.heap.size _ ([] ++ out.take k ++ [en]) (0+k+1) (by simp [List.length_take];omega) rfl R2'.out ad (j-k) (cap-k) (out.drop k) (by rw [List.length_drop];omega) rfl (HC2.out _ B2'.out) (by omega) B2'.out.size ?_;intro v3 w3 hr3 hc3 hg3;have R3:=hiq hr3;have B3:=hiq (B2'.out.trans (hc3.below (n:=u.heap.size) B2'.out.size (fun b hb e=>absurd e (by omega))));clear hr3 hg3));refine hkI hK (h:=?_);clear hK K
       try refine ztP ?_
       refine ztE fun K hK=>?_;(first|(refine wp_append_entsS _ _ rfl u.heap.size _ [] 0 rfl rfl ⟨rfl,.inr ⟨_,0,#[],rfl,(by first|exact Nat.le_refl _|simp),(by first|exact Blk.new _ _ _|exact (Blk.new _ _ _).alloc _|exact Blk.new_at (by simp)),by simp,by decide,rfl,rfl⟩⟩ ⟨g,0,none⟩ k cap (out.take k) (by rw [List.length_take];omega) rfl (HC1.out _ (by go_grown)) (by omega) (by simp;try omega) ?_;intro v1 w1 hr1 hc1 hg1;have R1:=hiq hr1;have B1:=hiq (Below.trans (show Below u.heap.size u _ from by go_grown) (hc1.below (n:=u.heap.size) (by simp;try omega) (fun b hb e=>absurd e (by omega))));(try have E1:=hiq (show Blk w1 u.heap.size 41 #[.int .u64 en.key,.int .u64 en.val,.int .u64 en.hash] from Blk.grown (by first|exact Blk.new _ _ _|exact (Blk.new _ _ _).alloc _|exact Blk.new_at (by simp)) hg1 (fun e=>absurd (Option.some.inj (show some (u.heap.size+1)=some u.heap.size from e)) (by omega))));(try have E1:=hiq (show Blk w1 (u.heap.size+1) 41 #[.int .u64 en.key,.int .u64 en.val,.int .u64 en.hash] from Blk.grown (by first|exact Blk.new _ _ _|exact (Blk.new _ _ _).alloc _|exact Blk.new_at (by simp)) hg1 (fun e=>absurd (Option.some.inj (show some u.heap.size=some (u.heap.size+1) from e)) (by omega))));clear hr1 hg1)|(refine wp_append_entsS _ _ rfl u.heap.size _ ([] ++ out.take k) (0+k) (by rw [List.nil_append,List.length_take];omega) rfl (by first|exact R1.out|exact ownsRow_later R1.out ((Below.refl _ _).alloc (Nat.le_refl _) _)) ⟨_,0,none⟩ 1 1 [en] rfl rfl (by first|exact cell3_new w1 _ _ _ _|exact blk_cells3 E1.out) (by omega) (by have:=B1.out.size;simp;try omega) ?_;intro v2 w2' hr2 hc2 hg2;have R2':=hiq hr2;have B2':=hiq (Below.trans (show Below u.heap.size u _ by first|exact B1.out|exact B1.out.alloc B1.out.size _) (hc2.below (n:=u.heap.size) (by have:=B1.out.size;simp;try omega) (fun b hb e=>absurd e (by omega))));clear hr2 hg2)|(refine wp_append_entsS _ _ rfl u.heap.size _ ([] ++ out.take k ++ [en]) (0+k+1) (by simp [List.length_take];omega) rfl R2'.out ad (j-k) (cap-k) (out.drop k) (by rw [List.length_drop];omega) rfl (HC2.out _ B2'.out) (by omega) B2'.out.size ?_;intro v3 w3 hr3 hc3 hg3;have R3:=hiq hr3;have B3:=hiq (B2'.out.trans (hc3.below (n:=u.heap.size) B2'.out.size (fun b hb e=>absurd e (by omega))));clear hr3 hg3));refine hK.out _ _ ?_;clear hK K
       try refine ztP ?_
       refine ztE fun K hK=>?_;(first|(refine wp_append_entsS _ _ rfl u.heap.size _ [] 0 rfl rfl ⟨rfl,.inr ⟨_,0,#[],rfl,(by first|exact Nat.le_refl _|simp),(by first|exact Blk.new _ _ _|exact (Blk.new _ _ _).alloc _|exact Blk.new_at (by simp)),by simp,by decide,rfl,rfl⟩⟩ ⟨g,0,none⟩ k cap (out.take k) (by rw [List.length_take];omega) rfl (HC1.out _ (by go_grown)) (by omega) (by simp;try omega) ?_;intro v1 w1 hr1 hc1 hg1;have R1:=hiq hr1;have B1:=hiq (Below.trans (show Below u.heap.size u _ from by go_grown) (hc1.below (n:=u.heap.size) (by simp;try omega) (fun b hb e=>absurd e (by omega))));(try have E1:=hiq (show Blk w1 u.heap.size 41 #[.int .u64 en.key,.int .u64 en.val,.int .u64 en.hash] from Blk.grown (by first|exact Blk.new _ _ _|exact (Blk.new _ _ _).alloc _|exact Blk.new_at (by simp)) hg1 (fun e=>absurd (Option.some.inj (show some (u.heap.size+1)=some u.heap.size from e)) (by omega))));(try have E1:=hiq (show Blk w1 (u.heap.size+1) 41 #[.int .u64 en.key,.int .u64 en.val,.int .u64 en.hash] from Blk.grown (by first|exact Blk.new _ _ _|exact (Blk.new _ _ _).alloc _|exact Blk.new_at (by simp)) hg1 (fun e=>absurd (Option.some.inj (show some u.heap.size=some (u.heap.size+1) from e)) (by omega))));clear hr1 hg1)|(refine wp_append_entsS _ _ rfl u.heap.size _ ([] ++ out.take k) (0+k) (by rw [List.nil_append,List.length_take];omega) rfl (by first|exact R1.out|exact ownsRow_later R1.out ((Below.refl _ _).alloc (Nat.le_refl _) _)) ⟨_,0,none⟩ 1 1 [en] rfl rfl (by first|exact cell3_new w1 _ _ _ _|exact blk_cells3 E1.out) (by omega) (by have:=B1.out.size;simp;try omega) ?_;intro v2 w2' hr2 hc2 hg2;have R2':=hiq hr2;have B2':=hiq (Below.trans (show Below u.heap.size u _ by first|exact B1.out|exact B1.out.alloc B1.out.size _) (hc2.below (n:=u.heap.size) (by have:=B1.out.size;simp;try omega) (fun b hb e=>absurd e (by omega))));clear hr2 hg2)|(refine wp_append_entsS _ _ rfl u.heap.size _ ([] ++ out.take k ++ [en]) (0+k+1) (by simp [List.length_take];omega) rfl R2'.out ad (j-k) (cap-k) (out.drop k) (by rw [List.length_drop];omega) rfl (HC2.out _ B2'.out) (by omega) B2'.out.size ?_;intro v3 w3 hr3 hc3 hg3;have R3:=hiq hr3;have B3:=hiq (B2'.out.trans (hc3.below (n:=u.heap.size) B2'.out.size (fun b hb e=>absurd e (by omega))));clear hr3 hg3));refine hK.out _ _ ?_;clear hK K
       try refine ztP ?_;refine ztC ?_
       refine T_done ?_
       rotate_left 1
       rotate_right 2
       rotate_left 2
       (go_wp2_with (fail);refine hkI hK (h:=?_);clear hK K)
       try refine ztP ?_
       refine ztD fun K hK=>?_;go_wp2_with (fail);refine hkI hK (h:=?_);clear hK K
       try refine ztP ?_
       refine ztD fun K hK=>?_;(first|(refine wp_append_entsS _ _ rfl u.heap.size _ [] 0 rfl rfl ⟨rfl,.inr ⟨_,0,#[],rfl,(by first|exact Nat.le_refl _|simp),(by first|exact Blk.new _ _ _|exact (Blk.new _ _ _).alloc _|exact Blk.new_at (by simp)),by simp,by decide,rfl,rfl⟩⟩ ⟨g,0,none⟩ k cap (out.take k) (by rw [List.length_take];omega) rfl (HC1.out _ (by go_grown)) (by omega) (by simp;try omega) ?_;intro v1 w1 hr1 hc1 hg1;have R1:=hiq hr1;have B1:=hiq (Below.trans (show Below u.heap.size u _ from by go_grown) (hc1.below (n:=u.heap.size) (by simp;try omega) (fun b hb e=>absurd e (by omega))));(try have E1:=hiq (show Blk w1 u.heap.size 41 #[.int .u64 en.key,.int .u64 en.val,.int .u64 en.hash] from Blk.grown (by first|exact Blk.new _ _ _|exact (Blk.new _ _ _).alloc _|exact Blk.new_at (by simp)) hg1 (fun e=>absurd (Option.some.inj (show some (u.heap.size+1)=some u.heap.size from e)) (by omega))));(try have E1:=hiq (show Blk w1 (u.heap.size+1) 41 #[.int .u64 en.key,.int .u64 en.val,.int .u64 en.hash] from Blk.grown (by first|exact Blk.new _ _ _|exact (Blk.new _ _ _).alloc _|exact Blk.new_at (by simp)) hg1 (fun e=>absurd (Option.some.inj (show some u.heap.size=some (u.heap.size+1) from e)) (by omega))));clear hr1 hg1)|(refine wp_append_entsS _ _ rfl u.heap.size _ ([] ++ out.take k) (0+k) (by rw [List.nil_append,List.length_take];omega) rfl (by first|exact R1.out|exact ownsRow_later R1.out ((Below.refl _ _).alloc (Nat.le_refl _) _)) ⟨_,0,none⟩ 1 1 [en] rfl rfl (by first|exact cell3_new w1 _ _ _ _|exact blk_cells3 E1.out) (by omega) (by have:=B1.out.size;simp;try omega) ?_;intro v2 w2' hr2 hc2 hg2;have R2':=hiq hr2;have B2':=hiq (Below.trans (show Below u.heap.size u _ by first|exact B1.out|exact B1.out.alloc B1.out.size _) (hc2.below (n:=u.heap.size) (by have:=B1.out.size;simp;try omega) (fun b hb e=>absurd e (by omega))));clear hr2 hg2)|(refine wp_append_entsS _ _ rfl u.heap.size _ ([] ++ out.take k ++ [en]) (0+k+1) (by simp [List.length_take];omega) rfl R2'.out ad (j-k) (cap-k) (out.drop k) (by rw [List.length_drop];omega) rfl (HC2.out _ B2'.out) (by omega) B2'.out.size ?_;intro v3 w3 hr3 hc3 hg3;have R3:=hiq hr3;have B3:=hiq (B2'.out.trans (hc3.below (n:=u.heap.size) B2'.out.size (fun b hb e=>absurd e (by omega))));clear hr3 hg3));refine hkI hK (h:=?_);clear hK K
       try refine ztP ?_
       refine ztE fun K hK=>?_;(first|(refine wp_append_entsS _ _ rfl u.heap.size _ [] 0 rfl rfl ⟨rfl,.inr ⟨_,0,#[],rfl,(by first|exact Nat.le_refl _|simp),(by first|exact Blk.new _ _ _|exact (Blk.new _ _ _).alloc _|exact Blk.new_at (by simp)),by simp,by decide,rfl,rfl⟩⟩ ⟨g,0,none⟩ k cap (out.take k) (by rw [List.length_take];omega) rfl (HC1.out _ (by go_grown)) (by omega) (by simp;try omega) ?_;intro v1 w1 hr1 hc1 hg1;have R1:=hiq hr1;have B1:=hiq (Below.trans (show Below u.heap.size u _ from by go_grown) (hc1.below (n:=u.heap.size) (by simp;try omega) (fun b hb e=>absurd e (by omega))));(try have E1:=hiq (show Blk w1 u.heap.size 41 #[.int .u64 en.key,.int .u64 en.val,.int .u64 en.hash] from Blk.grown (by first|exact Blk.new _ _ _|exact (Blk.new _ _ _).alloc _|exact Blk.new_at (by simp)) hg1 (fun e=>absurd (Option.some.inj (show some (u.heap.size+1)=some u.heap.size from e)) (by omega))));(try have E1:=hiq (show Blk w1 (u.heap.size+1) 41 #[.int .u64 en.key,.int .u64 en.val,.int .u64 en.hash] from Blk.grown (by first|exact Blk.new _ _ _|exact (Blk.new _ _ _).alloc _|exact Blk.new_at (by simp)) hg1 (fun e=>absurd (Option.some.inj (show some u.heap.size=some (u.heap.size+1) from e)) (by omega))));clear hr1 hg1)|(refine wp_append_entsS _ _ rfl u.heap.size _ ([] ++ out.take k) (0+k) (by rw [List.nil_append,List.length_take];omega) rfl (by first|exact R1.out|exact ownsRow_later R1.out ((Below.refl _ _).alloc (Nat.le_refl _) _)) ⟨_,0,none⟩ 1 1 [en] rfl rfl (by first|exact cell3_new w1 _ _ _ _|exact blk_cells3 E1.out) (by omega) (by have:=B1.out.size;simp;try omega) ?_;intro v2 w2' hr2 hc2 hg2;have R2':=hiq hr2;have B2':=hiq (Below.trans (show Below u.heap.size u _ by first|exact B1.out|exact B1.out.alloc B1.out.size _) (hc2.below (n:=u.heap.size) (by have:=B1.out.size;simp;try omega) (fun b hb e=>absurd e (by omega))));clear hr2 hg2)|(refine wp_append_entsS _ _ rfl u.heap.size _ ([] ++ out.take k ++ [en]) (0+k+1) (by simp [List.length_take];omega) rfl R2'.out ad (j-k) (cap-k) (out.drop k) (by rw [List.length_drop];omega) rfl (HC2.out _ B2'.out) (by omega) B2'.out.size ?_;intro v3 w3 hr3 hc3 hg3;have R3:=hiq hr3;have B3:=hiq (B2'.out.trans (hc3.below (n:=u.heap.size) B2'.out.size (fun b hb e=>absurd e (by omega))));clear hr3 hg3));refine hK.out _ _ ?_;clear hK K
       try refine ztP ?_
       refine ztE fun K hK=>?_;(first|(refine wp_append_entsS _ _ rfl u.heap.size _ [] 0 rfl rfl ⟨rfl,.inr ⟨_,0,#[],rfl,(by first|exact Nat.le_refl _|simp),(by first|exact Blk.new _ _ _|exact (Blk.new _ _ _).alloc _|exact Blk.new_at (by simp)),by simp,by decide,rfl,rfl⟩⟩ ⟨g,0,none⟩ k cap (out.take k) (by rw [List.length_take];omega) rfl (HC1.out _ (by go_grown)) (by omega) (by simp;try omega) ?_;intro v1 w1 hr1 hc1 hg1;have R1:=hiq hr1;have B1:=hiq (Below.trans (show Below u.heap.size u _ from by go_grown) (hc1.below (n:=u.heap.size) (by simp;try omega) (fun b hb e=>absurd e (by omega))));(try have E1:=hiq (show Blk w1 u.heap.size 41 #[.int .u64 en.key,.int .u64 en.val,.int .u64 en.hash] from Blk.grown (by first|exact Blk.new _ _ _|exact (Blk.new _ _ _).alloc _|exact Blk.new_at (by simp)) hg1 (fun e=>absurd (Option.some.inj (show some (u.heap.size+1)=some u.heap.size from e)) (by omega))));(try have E1:=hiq (show Blk w1 (u.heap.size+1) 41 #[.int .u64 en.key,.int .u64 en.val,.int .u64 en.hash] from Blk.grown (by first|exact Blk.new _ _ _|exact (Blk.new _ _ _).alloc _|exact Blk.new_at (by simp)) hg1 (fun e=>absurd (Option.some.inj (show some u.heap.size=some (u.heap.size+1) from e)) (by omega))));clear hr1 hg1)|(refine wp_append_entsS _ _ rfl u.heap.size _ ([] ++ out.take k) (0+k) (by rw [List.nil_append,List.length_take];omega) rfl (by first|exact R1.out|exact ownsRow_later R1.out ((Below.refl _ _).alloc (Nat.le_refl _) _)) ⟨_,0,none⟩ 1 1 [en] rfl rfl (by first|exact cell3_new w1 _ _ _ _|exact blk_cells3 E1.out) (by omega) (by have:=B1.out.size;simp;try omega) ?_;intro v2 w2' hr2 hc2 hg2;have R2':=hiq hr2;have B2':=hiq (Below.trans (show Below u.heap.size u _ by first|exact B1.out|exact B1.out.alloc B1.out.size _) (hc2.below (n:=u.heap.size) (by have:=B1.out.size;simp;try omega) (fun b hb e=>absurd e (by omega))));clear hr2 hg2)|(refine wp_append_entsS _ _ rfl u.heap.size _ ([] ++ out.take k ++ [en]) (0+k+1) (by simp [List.length_take];omega) rfl R2'.out ad (j-k) (cap-k) (out.drop k) (by rw [List.length_drop];omega) rfl (HC2.out _ B2'.out) (by omega) B2'.out.size ?_;intro v3 w3 hr3 hc3 hg3;have R3:=hiq hr3;have B3:=hiq (B2'.out.trans (hc3.below (n:=u.heap.size) B2'.out.size (fun b hb e=>absurd e (by omega))));clear hr3 hg3));refine hK.out _ _ ?_;clear hK K
       try refine ztP ?_;refine ztC ?_
       refine T_done ?_
       rotate_left 1
       rotate_right 3
       all_goals go_wp2
       all_goals go_roundw
       all_goals first|exact FIN.out _ _ R3.out B3.out|(simp [intOf];omega)
  · obtain rfl:j=l.length:=by omega
    go_wp2
    go_ret
    refine ⟨_,rfl,?_,KB.out⟩
    have:=KR.out
    rw [List.take_length] at this
    rw [sortE_length];exact this
theorem firstE_at {l:List EntS} {f:EntS} {k:Nat} (hk:k<l.length) (hm:∀i (hi:i<l.length),i<k→lessB l[i] f=true) (hs:lessB l[k] f=false):firstE l f=some l[k]:=by
 unfold firstE
 rw [List.find?_eq_some_iff_getElem]
 refine ⟨by simp [hs],k,hk,rfl,fun j hj=>?_⟩
 simp [hm j (by omega) hj]
theorem firstE_none {l:List EntS} {f:EntS} (hm:∀i (hi:i<l.length),lessB l[i] f=true):firstE l f=none:=by
 unfold firstE
 rw [List.find?_eq_none]
 intro x hx
 obtain ⟨i,hi,rfl⟩:=List.getElem_of_mem hx
 simp [hm i hi]
theorem leastL_yes {l:List EntS} {f e:EntS} (h:firstE (sortE l) f=some e):TabS.leastL l f=(e,true):=by
 obtain ⟨h1,h2⟩:=least_first l f
 rw [h] at h1
 generalize TabS.leastL l f=r at h1 h2
 obtain ⟨x,b⟩:=r
 cases b with
 | true=>simp at h1;rw [h1]
 | false=>simp at h1
theorem leastL_no {l:List EntS} {f:EntS} (h:firstE (sortE l) f=none):TabS.leastL l f=(EntS.zero,false):=by
 obtain ⟨h1,h2⟩:=least_first l f
 rw [h] at h1
 generalize TabS.leastL l f=r at h1 h2
 obtain ⟨x,b⟩:=r
 cases b with
 | true=>simp at h1
 | false=>rw [show x=EntS.zero from h2 rfl]
theorem rleast_any (v:Value) (l:List EntS) (base:Nat) (hs ky:Int) (w:World) (h:w.ownsRow base 41 3 v l.length (entV l)) (hl:l.length≤1000) :
 Calls Tryz.prog 20 #[v,.int .u64 hs,.int .u64 ky] w fun e w'=>e = .returned (.tuple #[.agg #[.int .u64 (TabS.leastL l ⟨ky,0,hs⟩).1.key,.int .u64 (TabS.leastL l ⟨ky,0,hs⟩).1.val,.int .u64 (TabS.leastL l ⟨ky,0,hs⟩).1.hash],.bool (TabS.leastL l ⟨ky,0,hs⟩).2])∧Below w.heap.size w w':=by
 have SO:=hiq (fun (w':World) (h':w'.ownsRow base 41 3 v l.length (entV l))=>sorted_any v l base w' h' hl)
 have HL:=hiq h
 have LY:=hiq (fun e=>leastL_yes (l:=l) (f:=⟨ky,0,hs⟩) (e:=e))
 have LN:=hiq (leastL_no (l:=l) (f:=⟨ky,0,hs⟩))
 have HSL:=hiq (sortE_length l)
 generalize TabS.leastL l ⟨ky,0,hs⟩=res at *
 generalize sortE l=s at *
 have hsl:s.length≤1000:=by rw [HSL.out];exact hl
 clear h
 go_enter Tryz.func20,Tryz.ntmps20
 go_upto_region 2 with (fail)
 refine wp_at (fun w2 hw2=>?_)
 obtain ⟨z,hz⟩:=exq w.heap.size
 have R2:=hiq (show Blk w2 z 41 #[.int .u64 0,.int .u64 0,.int .u64 0] by rw [hw2,hz];exact (Blk.new _ _ _).alloc _)
 have F2:=hiq (show Blk w2 (z+1) 41 #[.int .u64 ky,.int .u64 0,.int .u64 hs] by rw [hw2,hz];exact Blk.new_at (by simp))
 have B2:=hiq (show Below w.heap.size w w2 by rw [hw2];go_grown)
 rw [←hz]
 have HZ:=hiq hz
 replace hw2:=hiq hw2
 clear hz
 go_wp2_with (go_at_call 63;(with_reducible refine (SO.out _ (ownsRow_later HL.out (B2.out.mono (Nat.le_refl _)))).mono ?_);rintro e w3 ⟨sv,rfl,hr3,hb3⟩;obtain ⟨sa,scap,rfl⟩:=ownsRow_slice hr3;have S3:=hiq hr3;have R3:=hiq (R2.out.below hb3 R2.out.lt);have F3:=hiq (F2.out.below hb3 F2.out.lt);have B3:=hiq (B2.out.trans (hb3.mono B2.out.size));clear hr3)
 go_loopw [17] (fun v17 wr => ∃k:Nat,k≤s.length∧v17 = .int .i64 (k:Int)∧Below w3.heap.size w3 wr∧∀i (hi:i<s.length),i<k→lessB s[i] ⟨ky,0,hs⟩=true) (fun v17 _=>s.length-(intOf v17).toNat)
 case atStart=>exact ⟨0,Nat.zero_le _,rfl,Below.refl _ _,fun i hi h=>by omega⟩
 case round =>
  obtain ⟨k,hk,rfl,hB,hcl⟩:=hrel
  have KC:=hiq hcl
  have KB:=hiq hB
  have KS:=hiq (ownsRow_later S3.out hB)
  have KR:=hiq (R3.out.below hB R3.out.lt)
  have KF:=hiq (F3.out.below hB F3.out.lt)
  have KW:=hiq (B3.out.trans (hB.mono B3.out.size))
  clear hcl hB
  by_cases hlt:k<s.length
  · have hltI:(k:Int)<(s.length:Int):=by omega
    obtain ⟨ea',ecap',e,-,hrow⟩:=ents_own KS.out
    cases e
    obtain ⟨b,rfl,hbb,hbz,hcl⟩:=hrow (fun e=>by rw [e] at hlt;exact absurd hlt (by simp))
    obtain ⟨g0,g1,g2⟩:=hcl k hlt
    obtain ⟨en,hen⟩:=exq (s[k])
    rw [←hen] at g0 g1 g2
    have HEN:=hiq hen
    clear hcl hrow hen
    have BF:=hiq (fun (w':World)=>show Calls Tryz.prog 64 #[.agg #[.int .u64 en.key,.int .u64 en.val,.int .u64 en.hash],.agg #[.int .u64 ky,.int .u64 0,.int .u64 hs]] w' fun e w''=>e = .returned (.bool (lessB en ⟨ky,0,hs⟩))∧Below w'.heap.size w' w'' from before_any en ⟨ky,0,hs⟩ w')
    go_upto_region 5 with (fail)
    refine wp_at (fun w4 hw4=>?_)
    have hb4:Below wr.heap.size wr w4:=by rw [hw4];go_grown
    have B4:=hiq (KB.out.trans (hb4.mono KB.out.size))
    have R4:=hiq (KR.out.below hb4 KR.out.lt)
    have F4:=hiq (KF.out.below hb4 KF.out.lt)
    have P4:=hiq (show Blk w4 wr.heap.size 41 #[.int .u64 en.key,.int .u64 en.val,.int .u64 en.hash] by rw [hw4];exact Blk.new _ _ _)
    obtain ⟨eb,heb⟩:=exq wr.heap.size
    rw [←heb] at P4 ⊢
    replace hw4:=hiq hw4
    replace heb:=hiq heb
    obtain ⟨p0,p1,p2⟩:=cells3 P4.out
    have zP:=P4.out.lt
    obtain ⟨f0,f1,f2⟩:=cells3 F4.out
    have zF:=F4.out.lt
    clear g0 g1 g2 hbz hb4
    cases hle:lessB en ⟨ky,0,hs⟩ with
    | true =>
     rw [hle] at BF
     have HK2:=hiq (show ∀i (hi:i<s.length),i<k+1→lessB s[i] ⟨ky,0,hs⟩=true from fun i hi h=>by
      by_cases e:i=k
      · subst e;rw [←HEN.out];exact hle
      · exact KC.out i hi (by omega))
     clear hle
     go_wp2_with (go_at_call 64;(with_reducible refine (BF.out _).mono ?_);rintro e w5 ⟨rfl,hb5⟩;have B5:=hiq (B4.out.trans (hb5.mono B4.out.size)))
     go_roundw
     case rel=>exact ⟨k+1,by omega,by go_num,B5.out,HK2.out⟩
     case measure=>simp [intOf];omega
    | false =>
     rw [hle] at BF
     have HR:=hiq (LY.out en (by rw [HEN.out];exact firstE_at hlt KC.out (by rw [←HEN.out];exact hle)))
     clear hle
     go_upto_region 6 with (go_at_call 64;(with_reducible refine (BF.out _).mono ?_);rintro e w5 ⟨rfl,hb5⟩;have B5:=hiq (B4.out.trans (hb5.mono B4.out.size));have P5:=hiq (P4.out.below hb5 P4.out.lt);have R5:=hiq (R4.out.below hb5 R4.out.lt);have q5:=cells3 P5.out;have q50:=q5.1;have q51:=q5.2.1;have q52:=q5.2.2;have zP5:=P5.out.lt;clear q5 p0 p1 p2 zP)
     obtain ⟨r0,r1,r2⟩:=cells3 R5.out
     have zR:=R5.out.lt
     have fR:=fun j=>R5.out.frozen j
     go_wp2
     refine wp_end_at (fun Wf hWf=>?_)
     have hR:Blk Wf z 41 #[.int .u64 en.key,.int .u64 en.val,.int .u64 en.hash]:=by rw [hWf];exact ((R5.out.set 0 _).set 1 _).set 2 _
     have hC:Chg (fun b=>b=z) w5 Wf:=by rw [hWf];exact (((Chg.refl _ _).set1 _ _).set1 _ _).set1 _ _
     obtain ⟨x0,x1,x2⟩:=cells3 hR
     have hres:=HR.out
     subst hres
     exact bodyPost_ret (v := .tuple #[.agg #[.int .u64 en.key,.int .u64 en.val,.int .u64 en.hash],.bool true]) (by simp [results,Tryz.results20,go_sem,x0,x1,x2]) rfl ⟨rfl,(B3.out.trans (B5.out.mono B3.out.size)).trans (hC.below (n:=w.heap.size) (by have h1:=B3.out.size;have h2:=B5.out.size;omega) (fun b hb e=>by have:=HZ.out;omega))⟩
  · obtain rfl:k=s.length:=by omega
    have HR:=hiq (LN.out (firstE_none fun i hi=>KC.out i hi hi))
    obtain ⟨r0,r1,r2⟩:=cells3 KR.out
    have zR:=KR.out.lt
    have fR:=fun j=>KR.out.frozen j
    go_wp2
    refine wp_end_at (fun Wf hWf=>?_)
    have hR:Blk Wf z 41 #[.int .u64 0,.int .u64 0,.int .u64 0]:=by rw [hWf];first|exact KR.out|exact ((KR.out.set 0 _).set 1 _).set 2 _
    have hC:Chg (fun b=>b=z) wr Wf:=by rw [hWf];first|exact Chg.refl _ _|exact (((Chg.refl _ _).set1 _ _).set1 _ _).set1 _ _
    obtain ⟨x0,x1,x2⟩:=cells3 hR
    have hres:=HR.out
    subst hres
    exact bodyPost_ret (v := .tuple #[.agg #[.int .u64 0,.int .u64 0,.int .u64 0],.bool false]) (by simp [results,Tryz.results20,go_sem,x0,x1,x2]) rfl ⟨rfl,KW.out.trans (hC.below (n:=w.heap.size) KW.out.size (fun b hb e=>by have:=HZ.out;omega))⟩
end Go.Proofs.YtcnkgiapidlbkaaGreatDoor
