/- Joined texts; conditions within. -/
import Derived.BigRegion
import Derived.Test.YtolhmibejhldkaaGreatDoorPkNodeA
set_option linter.unusedVariables false
set_option linter.unusedSimpArgs false
set_option maxRecDepth 100000
set_option maxHeartbeats 8000000
namespace Go.Proofs.YtolhmibejhldkaaGreatDoor
open Go.RowKit Go.Proofs
def qa (p d b i:Nat):Nat:=if i<d then p / 2 ^ (d-1-i) % 2 else b
def rq (p d b m:Nat):List Nat:=(List.range m).map (qa p d b)
theorem Cm (p d b m:Nat):rq p d b (m+1)=rq p d b m ++ [qa p d b m]:=by simp [rq,List.range_succ]
theorem Iq (p d b:Nat) (hp:p<2 ^ d) (m:Nat) (hm:m<=d):o8 (rq p d b m)=p / 2 ^ (d-m):=by
 induction m with
 | zero=>rw [show rq p d b 0 = [] from rfl,show o8 []=0 from rfl];exact (Nat.div_eq_of_lt (by simpa using hp)).symm
 | succ m ih =>
  rw [Cm,qG,ih (by omega)];unfold qa;rw [if_pos (by omega),show d-m=(d-1-m)+1 by omega,Nat.pow_succ,<-Nat.div_div_eq_div_mul,show d-(m+1)=d-1-m by omega];omega
theorem VE (p d:Nat) (hp:p<2 ^ d) (e:Nat):o8 (rq p d 0 (d+e))=p*2 ^ e:=by
 induction e with
 | zero=>rw [Nat.add_zero,Iq p d 0 hp d (by omega)];simp
 | succ e ih =>
  rw [<-Nat.add_assoc,Cm,qG,ih];unfold qa;rw [if_neg (by omega),Nat.pow_succ,<-Nat.mul_assoc];omega
theorem Tf (p d:Nat) (hp:p<2 ^ d) (e:Nat):o8 (rq p d 1 (d+e))+1=(p+1)*2 ^ e:=by
 induction e with
 | zero =>
  have h:=Iq p d 1 hp d (by omega);rw [Nat.sub_self,Nat.pow_zero,Nat.div_one] at h;rw [show d+0=d from rfl,h,Nat.pow_zero,Nat.mul_one]
 | succ e ih =>
  rw [<-Nat.add_assoc,Cm,qG];unfold qa;rw [if_neg (by omega),Nat.pow_succ,<-Nat.mul_assoc,<-ih];omega
theorem QV (p d b i:Nat) (hb:b<=1):qa p d b i<=1:=by unfold qa;split <;> omega
theorem CF {w:World} {g:Nat} {T:TypeId} {cs:Array Value} (h:af w g T cs):w.setRow g cs=w:=by
 have:(w.setRow g cs).heap=w.heap:=by
  apply Array.ext_getElem?
  intro j;by_cases e:j=g
  . subst e;exact (h.setRow cs).trans h.symm
  . exact setRow_other w g cs e
 calc w.setRow g cs = { w with heap:=(w.setRow g cs).heap}:=rfl
  _=w:=by rw [this]
theorem Fv {w:World} {B:Nat} {f:Nat->Nat} (hb:af w B 169 (eD f)) :
 jB w (.slice (some ⟨B,0,none⟩) 64 64) (((List.range 64).map f).map λn:Nat=>(n:Int)):=by
 refine ⟨some ⟨B,0,none⟩,64,by simp,?_⟩;intro _;refine ⟨B,0,rfl,?_⟩;intro j hj;have hj':j<64:=by simpa using hj
 rw [Nat.zero_add,hb.cell,iE _ _ (by omega)];simp
theorem Kt (B:Nat) (w:World) :
 (Instr.sliceAt 169 (.pointer (some ⟨B,0,none⟩)) none none none).run Tryz.prog w = .ok (.slice (some ⟨B,0,none⟩) 64 64) w:=by kernel_rfl
theorem szZ (w:World):(sizeOf 169).run Tryz.prog w = .ok bD.size w:=by rw [show bD.size=64 from by simp [bD]];exact Tryz.sizeOf169 _
theorem af1:∀v∈bD.toList,v.oneCell'=true:=by rw [kX];exact su _
theorem Tg (p d n:Nat) (hn:n<d):(λj=>if j=n then p / 2 ^ (d-(n+1)) % 2 else if n+1<=j/\j<d then p / 2 ^ (d-1-j) % 2 else 0)=λj=>if n<=j/\j<d then p / 2 ^ (d-1-j) % 2 else 0:=by
 funext j
 by_cases e:j=n
 . subst e;rw [if_pos rfl,if_pos (by omega),show d-(j+1)=d-1-j by omega]
 . rw [if_neg e];by_cases c:n+1<=j/\j<d
   . rw [if_pos c,if_pos (by omega)]
   . rw [if_neg c,if_neg (by omega)]
theorem Ti (p d i:Nat) (hd:d<=i):(λj=>if j=i then 1 else if j<i then qa p d 1 j else 0)=λj=>if j<i+1 then qa p d 1 j else 0:=by
 funext j
 by_cases e:j=i
 . subst e;rw [if_pos rfl,if_pos (by omega)];unfold qa;rw [if_neg (by omega)]
 . rw [if_neg e];by_cases c:j<i
   . rw [if_pos c,if_pos (by omega)]
   . rw [if_neg c,if_neg (by omega)]
theorem Ow (p d:Nat) (hd:d<=16) (hp:p<2 ^ d) (w0:World) :
 Calls Tryz.prog 59 #[.int .i64 (p:Int),.int .i64 (d:Int)] w0 λe w'=>e = .returned (.tuple #[.int .u64 ((p*2 ^ (64-d):Nat):Int),.int .u64 (((p+1)*2 ^ (64-d)-1:Nat):Int),.int .i64 0])/\Below w0.heap.size w0 w':=by
 have LO:=VE p d hp (64-d);have HI:=Tf p d hp (64-d);rw [show d+(64-d)=64 by omega] at LO HI;replace HI:o8 (rq p d 1 64)=(p+1)*2 ^ (64-d)-1:=by omega
 rw [<-LO,<-HI];have hN0:=aa (λ(w:World) h=>Ei (.slice (some ⟨w0.heap.size,0,none⟩) 64 64) (rq p d 0 64) (by simp [rq]) (by intro b hb;simp only [rq,List.mem_map] at hb;obtain ⟨i,-,rfl⟩:=hb;exact QV p d 0 i (by decide)) w h);have hN1:=aa (λ(w:World) h=>Ei (.slice (some ⟨w0.heap.size+1,0,none⟩) 64 64) (rq p d 1 64) (by simp [rq]) (by intro b hb;simp only [rq,List.mem_map] at hb;obtain ⟨i,-,rfl⟩:=hb;exact QV p d 1 i (by decide)) w h);clear LO HI;generalize o8 (rq p d 0 64)=nl at *
 generalize o8 (rq p d 1 64)=nh at *
 have q0:=aa (show af ((w0.alloc (.cells bD 169)).alloc (.cells bD 169)) w0.heap.size 169 bD from (af.new _ _ _).alloc _);have q1:=aa (show af ((w0.alloc (.cells bD 169)).alloc (.cells bD 169)) (w0.heap.size+1) 169 bD from af.aF (by simp));have q1':=aa (show af ((w0.alloc (.cells bD 169)).alloc (.cells bD 169)) (w0.alloc (.cells bD 169)).heap.size 169 bD from af.new _ _ _);have h9:∀k:Nat,k<=16->2 ^ k<=65536:=λk hk=>Nat.pow_le_pow_right (n:=2) (by decide) hk;have H9:=aa h9;have hP:=aa hp;have e1:decide ((d:Int)<0)=false:=by simp
 have e2:decide ((d:Int) > 16)=false:=by simp;omega
 have e3:decide ((p:Int)<0)=false:=by simp
 have amY:p<65536:=bM hp (h9 d hd);clear h9 hp;go_enter Tryz.func59,Tryz.ntmps59
 go_wp2
 go_loop [7,8] (λv7 v8 => ∃k:Nat,k<=d/\v8 = .int .i64 (k:Int)/\v7 = .int .i64 ((2 ^ k:Nat):Int)) (λ_ v8=>d-(intOf v8).toNat)
 case atStart=>exact ⟨0,o7 _,rfl,rfl⟩
 case round =>
  obtain ⟨k,hk,rfl,rfl⟩:=hrel;by_cases hlt:k<d
  . have h1:=H9.out k (by omega);have h2:2 ^ (k+1)=2 ^ k*2:=Nat.pow_succ ..;generalize 2 ^ k=m at *
    have H2:=aa h2;clear h2;go_wp2
    go_round
    case rel=>exact ⟨k+1,by omega,by go_num,by rw [H2.out];go_num⟩
    case measure=>simp [intOf];omega
  . obtain rfl:k=d:=by omega
    have h1:=hP.out;have hge:decide (2 ^ k<=p)=false:=by rw [decide_eq_false_iff_not];omega
    generalize 2 ^ k=m at h1 hge ⊢
    go_wp2_with (first
     | (refine eU rfl (Im (t:=169) rfl Tryz.underlying169 rfl Qu (λw=>⟨_,Tryz.sizeOf3 w⟩)) ?_)
     | (refine eU rfl (Fj (t:=169) rfl Qu) ?_)
     | (refine gH rfl (fq (t:=169) (g:=w0.heap.size) rfl rfl rfl q0.out rfl (by exact szZ _) (by exact af1)) ?_;(try rw [show (Value.agg bD).cells=bD from rfl]);rw [CF q0.out])
     | (refine gH rfl (fq (t:=169) (g:=(w0.alloc (.cells bD 169)).heap.size) rfl rfl rfl q1'.out rfl (by exact szZ _) (by exact af1)) ?_;(try rw [show (Value.agg bD).cells=bD from rfl]);rw [CF q1'.out]))
    clear q1';replace q0:=q0.out;replace q1:=q1.out;have hB1:Below w0.heap.size w0 ((w0.alloc (.cells bD 169)).alloc (.cells bD 169)):=by go_grown
    rw [kX] at q0 q1 hB1 ⊢;generalize (w0.alloc (.cells (eD λ_=>0) 169)).alloc (.cells (eD λ_=>0) 169)=W2 at q0 q1 hB1 ⊢
    go_loopw [11,12] (λv11 v12 wr => ∃i:Nat,i<=k/\v12 = .int .i64 ((i:Int)-1)/\v11 = .int .i64 ((p / 2 ^ (k-i):Nat):Int)/\af wr w0.heap.size 169 (eD (λj=>if i<=j/\j<k then p / 2 ^ (k-1-j) % 2 else 0))/\af wr (w0.heap.size+1) 169 (eD (λj=>if i<=j/\j<k then p / 2 ^ (k-1-j) % 2 else 0))/\Below w0.heap.size w0 wr) (λ_ v12 _=>(intOf v12+1).toNat)
    case atStart =>
     refine ⟨k,by omega,rfl,by simp,?_,?_,hB1⟩
     . rw [<-gL (f:=λ_=>0) (λi hi=>by rw [if_neg (by omega)])];exact q0
     . rw [<-gL (f:=λ_=>0) (λi hi=>by rw [if_neg (by omega)])];exact q1
    case round =>
     clear q0 q1 hB1;obtain ⟨i,hi,rfl,rfl,h1,h2,h3⟩:=hrel;by_cases hlt:1<=i
     . obtain ⟨n,rfl⟩:∃n,i=n+1:=⟨i-1,by omega⟩
       rw [show (((n+1:Nat):Int)-1)=(n:Int) by omega];have c1:=h1.cell n;have c2:=h2.cell n;rw [iE _ n (by omega)] at c1 c2;have f1:=h1.frozen n;have f2:=h2.frozen n;have hq0:p / 2 ^ (k-(n+1)) / 2=p / 2 ^ (k-n):=(by rw [Nat.div_div_eq_div_mul,<-Nat.pow_succ,show (k-(n+1)).succ=k-n by omega])
       have hlow:p / 2 ^ (k-(n+1))<=p:=Nat.div_le_self _ _;have Vb:=aa (Tg p k n (by omega));generalize p / 2 ^ (k-(n+1))=t at *
       have hq:=aa hq0;clear hq0;have H1:=aa h1;have H2:=aa h2;clear h1 h2;go_wp2
       go_roundw
       case rel =>
        have e1:=H1.out.set n (.int .i64 ((t % 2:Nat):Int));have e2:=(H2.out.other (by omega) n (.int .i64 ((t % 2:Nat):Int)) (B':=w0.heap.size)).set n (.int .i64 ((t % 2:Nat):Int));rw [si _ _ _ (by omega),Vb.out] at e1 e2;rw [show (t:Int) % 2=((t % 2:Nat):Int) by omega];exact ⟨n,by omega,by go_num,by rw [<-hq.out];simp,e1.other (by omega) _ _,e2,(h3.setCell (by simp) _).setCell (by simp) _⟩
       case measure=>simp only [intOf];omega
     . obtain rfl:i=0:=by omega
       rw [gL (g:=qa p k 0) (λj hj=>by unfold qa;by_cases c:j<k <;> simp [c])] at h1;rw [gL (g:=λj=>if j<k then qa p k 1 j else 0) (λj hj=>by unfold qa;by_cases c:j<k <;> simp [c])] at h2;have H1:=aa h1;have H2:=aa h2;clear h1 h2;obtain ⟨wo,rfl⟩:∃wo:World,wo=wr:=⟨_,rfl⟩
       go_wp2
       go_loopw [13] (λv13 wr => ∃i:Nat,k<=i/\i<=64/\v13 = .int .i64 (i:Int)/\af wr w0.heap.size 169 (eD (qa p k 0))/\af wr (w0.heap.size+1) 169 (eD (λj=>if j<i then qa p k 1 j else 0))/\Below w0.heap.size w0 wr) (λv13 _=>64-(intOf v13).toNat)
       case atStart=>exact ⟨k,aL _,by omega,rfl,H1.out,H2.out,h3⟩
       case round =>
        clear H1 H2 h3;obtain ⟨i,hi,am7,rfl,h1,h2,h3⟩:=hrel;by_cases hlt:i<64
        . have c2:=h2.cell i;rw [iE _ i (by omega)] at c2;have f2:=h2.frozen i;have Vb:=aa (Ti p k i hi);have H1:=aa h1;have H2:=aa h2;clear h1 h2;go_wp2
          go_roundw
          case rel =>
           have e2:=H2.out.set i (.int .i64 ((1:Nat):Int));rw [si _ _ _ (by omega),Vb.out] at e2;exact ⟨i+1,by omega,by omega,by go_num,H1.out.other (by omega) _ _,e2,h3.setCell (by simp) _⟩
          case measure=>simp [intOf];omega
        . obtain rfl:i=64:=by omega
          rw [gL (g:=qa p k 1) (λj hj=>by rw [if_pos hj])] at h2;have H1:=aa (Fv h1);have H2:=aa (Fv h2);clear h1 h2;have s1:=Kt w0.heap.size wr;have s2:=Kt (w0.heap.size+1) wr;go_wp2;refine ag (λ_=>False) #[⟨0,0,2^60,512,0⟩,⟨1,1,2^61,2^60,3⟩,⟨0,0,2^62,1024,0⟩,⟨6,7,2^63,2^62,3⟩,⟨11,15,16,2^61,0⟩,⟨31,31,32,2^63,0⟩,⟨63,63,64,0,0⟩] 0 [(0,0),(2,0),(1,3),(3,3),(4,0),(5,0),(6,0)] (by kernel_rfl) (by kernel_rfl) (by kernel_rfl) (by kernel_rfl) (by kernel_rfl) (by kernel_rfl) (λc a d v w h=>by cases d <;> exact h) ?_;refine aj ?_;refine aj ?_;refine fA λK hK=>?_;go_wp2_with (go_at_call 112;((with_reducible refine (hN0.out _ H1.out).mono ?_));rintro e w' ⟨rfl,rfl⟩);refine hK.out _ _ ?_;clear hK K
          try refine aC ?_
          refine fA λK hK=>?_;go_wp2_with (go_at_call 112;((with_reducible refine (hN1.out _ H2.out).mono ?_));rintro e w' ⟨rfl,rfl⟩);refine hK.out _ _ ?_;clear hK K
          try refine aC ?_;refine aj ?_;refine aj ?_;refine aj ?_
          refine aD ?_;go_wp2
          go_ret3
          exact ⟨rfl,h3.drew⟩
theorem Mg (p d:Int) (h:d<0\/16<d\/p<0) (w0:World) :
 Calls Tryz.prog 59 #[.int .i64 p,.int .i64 d] w0 λe w'=>e = .returned (.tuple #[.int .u64 0,.int .u64 0,.int .i64 1])/\w0=w':=by
 by_cases h1:d<0
 . have e1:decide (d<0)=true:=by simpa using h1
   clear h h1;go_enter Tryz.func59,Tryz.ntmps59
   go_wp2
   go_ret3
   exact ⟨rfl,rfl⟩
 have e1:decide (d<0)=false:=by simpa using h1
 by_cases h2:16<d
 . have e2:decide (d > 16)=true:=by simpa using h2
   clear h h1;go_enter Tryz.func59,Tryz.ntmps59
   go_wp2
   go_ret3
   exact ⟨rfl,rfl⟩
 have e2:decide (d > 16)=false:=by simpa using h2
 have e3:decide (p<0)=true:=by simp;omega
 clear h h1 h2;go_enter Tryz.func59,Tryz.ntmps59
 go_wp2
 go_ret3
 exact ⟨rfl,rfl⟩
theorem run_min2 {P:Program} (w:World) (ts:Array TypeId) (ty:TypeId) (k k':IntKind) (x y:Int) :
 (Builtin.min_ ts ty #[.int k x,.int k' y]).run P w = .ok (.int k (mn x y)) w:=by
 simp [Builtin.min_,Builtin.min2];rfl
attribute [local go_sem] run_min2
theorem QH (x:Int) (h:0<=x):0<=mn x 1000/\mn x 1000<=1000/\mn x 1000<=x/\(x<=1000->mn x 1000=x)/\(1000<=x->mn x 1000=1000):=by unfold mn;split <;> omega
theorem ou (l t g lo gl:Int) (w:World) :
 Calls Tryz.prog 75 #[.int .i64 l,.int .i64 t,.int .i64 g,.int .i64 lo,.int .i64 gl] w λe w'=>e = .returned (.int .i64 (dY l t g lo gl))/\w=w':=by
 by_cases h1:0<=l
 . by_cases h2:0<=t
   . by_cases h3:0<=lo
     . by_cases h4:0<=gl
       . by_cases hr:aN g=true
         . have hg:=j5 hr;have hf:kV l t g lo gl=true:=(gX _ _ _ _ _).2 ⟨hr,h1,h2,h3,h4⟩;have m1:=QH l h1;have m2:=QH t h2;by_cases hn:ji l t g=true
           . have hw:=Dy ⟨hf,hn⟩;have hn':=(oD _ _ _).1 hn;have hs:4*g<=mn l 1000+mn t 1000:=by omega
             have HW:=aa hw;clear hf hn hw hn';go_enter Tryz.func75,Tryz.ntmps75
             go_wp2_with (go_at_call 113;refine (dx _ _).mono ?_;rintro e w' ⟨rfl,rfl⟩;simp only [hr])
             all_goals go_ret
             all_goals refine ⟨?_,rfl⟩
             all_goals rw [HW.out]
             all_goals (show Ending.returned (.int .i64 _)=_;congr 2;(repeat split) <;> omega)
           . have hw:dY l t g lo gl=0:=by unfold dY;rw [if_neg (λh=>hn h.2)]
             have hn':¬ (4*g<=l\/4*g-l<=t):=λh=>hn ((oD _ _ _).2 h);have hs:mn l 1000+mn t 1000<4*g:=by omega
             have HW:=aa hw;clear hf hn hw hn';go_enter Tryz.func75,Tryz.ntmps75
             go_wp2_with (go_at_call 113;refine (dx _ _).mono ?_;rintro e w' ⟨rfl,rfl⟩;simp only [hr])
             go_ret;exact ⟨by rw [HW.out];rfl,rfl⟩
         . have hw:dY l t g lo gl=0:=lS λh=>hr h.1;replace hr:aN g=false:=by simpa using hr
           have HW:=aa hw;clear hw;go_enter Tryz.func75,Tryz.ntmps75
           go_wp2_with (go_at_call 113;refine (dx _ _).mono ?_;rintro e w' ⟨rfl,rfl⟩;simp only [hr])
           go_ret;exact ⟨by rw [HW.out];rfl,rfl⟩
       . have HW:=aa (show dY l t g lo gl=0 from lS λh=>h4 h.2.2.2.2);go_enter Tryz.func75,Tryz.ntmps75
         go_wp2;go_ret;exact ⟨by rw [HW.out];rfl,rfl⟩
     . have HW:=aa (show dY l t g lo gl=0 from lS λh=>h3 h.2.2.2.1);go_enter Tryz.func75,Tryz.ntmps75
       go_wp2;go_ret;exact ⟨by rw [HW.out];rfl,rfl⟩
   . have HW:=aa (show dY l t g lo gl=0 from lS λh=>h2 h.2.2.1);go_enter Tryz.func75,Tryz.ntmps75
     go_wp2;go_ret;exact ⟨by rw [HW.out];rfl,rfl⟩
 . have HW:=aa (show dY l t g lo gl=0 from lS λh=>h1 h.2.1);go_enter Tryz.func75,Tryz.ntmps75
   go_wp2;go_ret;exact ⟨by rw [HW.out];rfl,rfl⟩
theorem GM (l t g lo gl:Int) (w:World) :
 Calls Tryz.prog 76 #[.int .i64 l,.int .i64 t,.int .i64 g,.int .i64 lo,.int .i64 gl] w λe w'=>e = .returned (.bool (fV l t g lo gl))/\w=w':=by
 by_cases hz:dY l t g lo gl=0
 . have HD:=aa (show fV l t g lo gl=false by
    rw [Bool.eq_false_iff];intro h;exact (OB h).1 hz)
   replace hz:=aa hz;go_enter Tryz.func76,Tryz.ntmps76
   go_wp2_with (go_at_call 75;refine (ou _ _ _ _ _ _).mono ?_;rintro e w' ⟨rfl,rfl⟩;rw [hz.out])
   go_ret;exact ⟨by rw [HD.out];rfl,rfl⟩
 . have hb:=Rn hz
   have hw:fV l t g lo gl=decide (2*g<l/\8<=g/\lo=gl/\gl<5):=by
    unfold fV;rw [Bool.eq_iff_iff,decide_eq_true_iff,decide_eq_true_iff];exact ⟨λh=>h.2.2,λh=>⟨hb.1.1,hb.1.2,h⟩⟩
   have HW:=aa hw;have hg:=hb.2.2;have h0:=((gX _ _ _ _ _).1 hb.1.1).2.1;obtain ⟨k,hk⟩:∃k,dY l t g lo gl=k:=⟨_,rfl⟩
   rw [hk] at hz;replace hk:=aa hk;clear hb hw;go_enter Tryz.func76,Tryz.ntmps76
   go_wp2_with (go_at_call 75;refine (ou _ _ _ _ _ _).mono ?_;rintro e w' ⟨rfl,rfl⟩;rw [hk.out])
   all_goals go_ret
   all_goals refine ⟨?_,rfl⟩
   all_goals rw [HW.out]
   all_goals (show Ending.returned (.bool _)=_;congr 2;((rw [Bool.eq_iff_iff];simp;omega)))
end Go.Proofs.YtolhmibejhldkaaGreatDoor
namespace Go.Proofs.YtolhmibejhldkaaGreatDoor
open Go.RowKit Go.Proofs
def lU (k g:Int):Value := .tuple #[.int .i64 (if fK k g=0 then mU k g else 0),.int .i64 (if fK k g=0 then oW k else 0),.int .i64 (fK k g:Int)]
theorem jd {k g:Int} (h:fK k g=0):lU k g = .tuple #[.int .i64 (mU k g),.int .i64 (oW k),.int .i64 0]:=by
 unfold lU;rw [h];rfl
theorem gu {k g:Int} {n:Nat} (h:fK k g=n) (hn:n≠0):lU k g = .tuple #[.int .i64 0,.int .i64 0,.int .i64 (n:Int)]:=by
 unfold lU;rw [h,if_neg hn,if_neg hn]
theorem rA (k g:Int) (w:World) :
 Calls Tryz.prog 77 #[.int .i64 k,.int .i64 g] w λe w'=>e = .returned (lU k g)/\Below w.heap.size w w':=by
 by_cases k1:k=1
 . subst k1;by_cases hr:aN g=true
   . have hgb:=j5 hr;have HV:=aa ((jd (qQ (k:=1) (by omega) hr (by omega))).trans (show _=Value.tuple #[.int .i64 (g),.int .i64 1,.int .i64 0] from rfl));go_enter Tryz.func77,Tryz.ntmps77
     go_wp2_with (go_at_call 113;refine (dx _ _).mono ?_;rintro e w' ⟨rfl,rfl⟩;simp only [hr])
     go_region
     all_goals go_wp2
     all_goals go_ret3
     all_goals exact ⟨by rw [HV.out];rfl,(by repeat (first|exact aM _ _|refine below_drewN ?_ _|refine Below.alloc ?_ (by simp) _))⟩
   . have hb:fK 1 g=1:=by unfold fK;rw [if_pos (by omega),if_neg (λh=>hr h.1)]
     replace hr:aN g=false:=by simpa using hr
     have HV:=aa (gu (k:=1) (g:=g) (n:=1) hb (by decide));go_enter Tryz.func77,Tryz.ntmps77
     go_wp2_with (go_at_call 113;refine (dx _ _).mono ?_;rintro e w' ⟨rfl,rfl⟩;simp only [hr])
     go_ret3
     exact ⟨by rw [HV.out];rfl,(by repeat (exact aM _ _))⟩
 . by_cases k2:k=2
   . subst k2;by_cases hr:aN g=true
     . have hgb:=j5 hr;by_cases h64:g<64
       . clear k1;have HV:=aa ((jd (qQ (k:=2) (by omega) hr (λ_=>h64))).trans (show _=Value.tuple #[.int .i64 (2*g),.int .i64 1,.int .i64 0] from rfl));go_enter Tryz.func77,Tryz.ntmps77
         go_wp2_with (go_at_call 113;refine (dx _ _).mono ?_;rintro e w' ⟨rfl,rfl⟩;simp only [hr])
         go_region
         all_goals go_wp2
         all_goals go_ret3
         all_goals exact ⟨by rw [HV.out];rfl,(by repeat (first|exact aM _ _|refine below_drewN ?_ _|refine Below.alloc ?_ (by simp) _))⟩
       . have hq:aN (2*g)=false:=by rw [Bool.eq_false_iff,ne_eq,dG];omega
         have h65:g=64:=by omega
         subst h65;have HV:=aa (gu (k:=2) (g:=64) (n:=1) (by unfold fK mU;rw [if_pos (by omega),if_neg (λh=>by rw [if_pos rfl,hq] at h;exact absurd h.2 (by decide))]) (by decide));clear hq;go_enter Tryz.func77,Tryz.ntmps77
         go_wp2_with (go_at_call 113;refine (dx _ _).mono ?_;rintro e w' ⟨rfl,rfl⟩;simp only [hr])
         go_ret3
         exact ⟨by rw [HV.out];rfl,(by repeat (exact aM _ _))⟩
     . have hb:fK 2 g=1:=by unfold fK;rw [if_pos (by omega),if_neg (λh=>hr h.1)]
       replace hr:aN g=false:=by simpa using hr
       have HV:=aa (gu (k:=2) (g:=g) (n:=1) hb (by decide));go_enter Tryz.func77,Tryz.ntmps77
       go_wp2_with (go_at_call 113;refine (dx _ _).mono ?_;rintro e w' ⟨rfl,rfl⟩;simp only [hr])
       go_ret3
       exact ⟨by rw [HV.out];rfl,(by repeat (exact aM _ _))⟩
   . by_cases k3:k=3
     . subst k3;by_cases hr:aN g=true
       . have hgb:=j5 hr;have HV:=aa ((jd (qQ (k:=3) (by omega) hr (by omega))).trans (show _=Value.tuple #[.int .i64 (g),.int .i64 2,.int .i64 0] from rfl));go_enter Tryz.func77,Tryz.ntmps77
         go_wp2_with (go_at_call 113;refine (dx _ _).mono ?_;rintro e w' ⟨rfl,rfl⟩;simp only [hr])
         go_region
         all_goals go_wp2
         all_goals go_ret3
         all_goals exact ⟨by rw [HV.out];rfl,(by repeat (first|exact aM _ _|refine below_drewN ?_ _|refine Below.alloc ?_ (by simp) _))⟩
       . have hb:fK 3 g=1:=by unfold fK;rw [if_pos (by omega),if_neg (λh=>hr h.1)]
         replace hr:aN g=false:=by simpa using hr
         have HV:=aa (gu (k:=3) (g:=g) (n:=1) hb (by decide));go_enter Tryz.func77,Tryz.ntmps77
         go_wp2_with (go_at_call 113;refine (dx _ _).mono ?_;rintro e w' ⟨rfl,rfl⟩;simp only [hr])
         go_ret3
         exact ⟨by rw [HV.out];rfl,(by repeat (exact aM _ _))⟩
     . have HV:=aa (gu (k:=k) (g:=g) (n:=14) (by unfold fK;rw [if_neg (by omega)]) (by decide));by_cases k0:k<1
       . have kx:=k0;go_enter Tryz.func77,Tryz.ntmps77
         go_wp2
         go_ret3
         exact ⟨by rw [HV.out];rfl,(by repeat (exact aM _ _))⟩
       . have kx:3<k:=by omega
         go_enter Tryz.func77,Tryz.ntmps77
         go_wp2
         go_ret3
         exact ⟨by rw [HV.out];rfl,(by repeat (exact aM _ _))⟩
attribute [local go_sem] neq_nilG eql_nilG
structure RN (w:World) (R Rb X gt aH:Nat) (p0:PB) (pt:Nat->PB) (x:bH) (L0:Int) (Lc:Nat->Int):Prop where
 b:af w R 78 #[.int .i64 (x.p:Int),.int .i64 (x.d:Int),.int .i64 x.Ey,.pointer (some ⟨p0.D,0,none⟩),.pointer (if x.bz=true then some ⟨Rb,0,none⟩ else none)]
 i:x.bz=false->DX w p0.mid p0.hi p0.D x.s.T L0/\0<x.s.bare
 u:x.bz=true->DM w Rb X gt aH p0 pt x.s false L0 Lc/\dW x.s
def bH.all (x:bH):List ai:=if x.bz=true then x.s.all x.s.k else x.s.T.iG
section
variable {w w':World} {R Rb X gt aH:Nat} {p0:PB} {pt:Nat->PB} {x:bH} {L0:Int} {Lc:Nat->Int}
theorem RN.later (h:RN w R Rb X gt aH p0 pt x L0 Lc) (hb:Below w.heap.size w w'):RN w' R Rb X gt aH p0 pt x L0 Lc :=
 ⟨h.b.below hb h.b.lt,λhz=>⟨(h.i hz).1.later hb,(h.i hz).2⟩,λhz=>⟨(h.u hz).1.later hb,(h.u hz).2⟩⟩
theorem RN.cells (h:RN w R Rb X gt aH p0 pt x L0 Lc):w.cell? ⟨R,0,none⟩=some (.int .i64 (x.p:Int))/\w.cell? ⟨R,1,none⟩=some (.int .i64 (x.d:Int))/\w.cell? ⟨R,2,none⟩=some (.int .i64 x.Ey)/\w.cell? ⟨R,3,none⟩=some (.pointer (some ⟨p0.D,0,none⟩))/\w.cell? ⟨R,4,none⟩=some (.pointer (if x.bz=true then some ⟨Rb,0,none⟩ else none))/\R<w.heap.size :=
 ⟨h.b.cell 0,h.b.cell 1,h.b.cell 2,h.b.cell 3,h.b.cell 4,h.b.lt⟩
theorem RN.ae6 (h:RN w R Rb X gt aH p0 pt x L0 Lc):Calls Tryz.prog 24 #[.pointer (some ⟨R,0,none⟩)] w λe w' =>
 ∃v,e = .returned v/\w'.ownsRow w.heap.size 46 3 v x.all.length (cB x.all)/\Below w.heap.size w w':=by
 obtain ⟨c0,c1,c2,c3,c4,z⟩:=h.cells;unfold bH.all;cases hz:x.bz with
 | true =>
  rw [hz,if_pos rfl] at c4;rw [if_pos rfl];have AL:=aa ((h.u hz).1.all (h.u hz).2);clear h c0 c1 c2 c3 hz;go_enter Tryz.func24,Tryz.ntmps24
  go_wp2_with (go_at_call 68;(with_reducible refine AL.out.mono ?_);rintro e w1 ⟨v,rfl,hr,hb1⟩;have R1:=aa hr;have B1:=aa hb1;clear hr hb1)
  go_ret;exact ⟨v,rfl,R1.out,B1.out⟩
 | false =>
  rw [hz,if_neg (by decide)] at c4;rw [if_neg (by decide)];have AL:=aa (h.i hz).1.all;clear h c0 c1 c2 hz;go_enter Tryz.func24,Tryz.ntmps24
  go_wp2_with (go_at_call 69;(with_reducible refine AL.out.mono ?_);rintro e w1 ⟨v,rfl,hr,hb1⟩;have R1:=aa hr;have B1:=aa hb1;clear hr hb1)
  go_ret;exact ⟨v,rfl,R1.out,B1.out⟩
theorem DX.cnt {lo hi D:Nat} {T:ae} {L:Int} (h:DX w lo hi D T L):Calls Tryz.prog 131 #[.pointer (some ⟨D,0,none⟩),.int .i64 3] w (λe w'=>e = .returned (.int .i64 T.lv)/\Below w.heap.size w w')/\Calls Tryz.prog 131 #[.pointer (some ⟨D,0,none⟩),.int .i64 2] w (λe w'=>e = .returned (.int .i64 T.tb)/\Below w.heap.size w w'):=by
 have hg:=h.good;obtain ⟨P,cap,GB,hd⟩:=h;have h3:=mV hd 3;have h2:=mV hd 2;rw [<-hg.lv] at h3;rw [<-hg.tb] at h2;exact ⟨h3,h2⟩
def bH.nums (x:bH):Value := .agg #[.int .i64 x.len,.int .i64 x.tmb,.int .i64 x.grp,.int .i64 x.lft]
theorem RN.QG (h:RN w R Rb X gt aH p0 pt x L0 Lc):Calls Tryz.prog 74 #[.pointer (some ⟨R,0,none⟩)] w λe w'=>e = .returned x.nums/\Below w.heap.size w w':=by
 obtain ⟨c0,c1,c2,c3,c4,z⟩:=h.cells;unfold bH.nums bH.len bH.tmb bH.grp bH.lft;cases hz:x.bz with
 | true =>
  rw [hz,if_pos rfl] at c4;simp only [if_pos];have HM:=aa (h.u hz);have GR:=aa (λ(W:World) (hb:Below w.heap.size w W)=>(HM.out.1.later hb).groups HM.out.2);have AL:=aa (λ(W:World) (hb:Below w.heap.size w W)=>(HM.out.1.later hb).all HM.out.2);have LE:=aa (λ(W:World) (hb:Below w.heap.size w W)=>(HM.out.1.later hb).left HM.out.2);unfold DuS.groups at GR;have hal:(x.s.all x.s.k).length<=512*(x.s.k+1):=J6 HM.out.2 _ (aL _);generalize cB (x.s.all x.s.k)=ev at *
  generalize (x.s.all x.s.k).length=al at *
  generalize ((x.s.T.n+x.s.k*x.s.gn:Nat):Int)=gr at *
  generalize ((x.s.left:Nat):Int)=le at *
  clear h c0 c1 c2 c3 hz HM;go_enter Tryz.func74,Tryz.ntmps74
  go_upto_region 3 with (go_at_call 130;(with_reducible refine (GR.out _ ((aM _ _).alloc (aL _) _)).mono ?_);rintro e w1 ⟨rfl,rfl⟩)
  refine bG (λW hW=>?_);have BW:=aa (show Below w.heap.size w W by rw [hW];go_grown);have NB:=aa (show af W w.heap.size 124 #[.int .i64 0,.int .i64 0,.int .i64 0,.int .i64 0] by rw [hW];exact af.new _ _ _);have d4:=(BW.out.cell (p:=⟨R,4,none⟩) z).trans c4;have zR:=bM z BW.out.size;clear hW c4;refine ag (λ_=>False) #[⟨0,0,2^18,1,0⟩,⟨1,1,2^19,2^18,0⟩,⟨2,3,2^20,2^19,0⟩,⟨4,7,2^21,2^20,1⟩,⟨8,15,2^22,2^21,2⟩,⟨16,31,2^23,2^22,0⟩,⟨0,0,2^24,8,0⟩,⟨0,0,2^25,1,0⟩,⟨128,128,2^26,2^25,0⟩,⟨256,384,2^27,2^26,0⟩,⟨512,896,2^28,2^27,1⟩,⟨1040,1951,2^29,2^28,3⟩,⟨2144,4095,2^30,(2^23+2^24+2^29),0⟩,⟨8191,8191,0,(2^2+2^30),3⟩] 1032 [(0,0),(1,0),(2,0),(3,1),(6,0),(7,0),(8,0),(9,0),(10,1),(4,2),(5,0),(11,3),(12,0),(13,3)] (by kernel_rfl) (by kernel_rfl) (by kernel_rfl) (by kernel_rfl) (by kernel_rfl) (by kernel_rfl) (λc a d v w h=>by cases d <;> exact h) ?_;refine aj ?_;refine aj ?_;refine aj ?_;refine bW Tryz.underlying76 ?_
  try refine aC ?_;refine aj ?_;refine aj ?_;refine aj ?_;refine aj ?_
  refine bW Tryz.underlying76 ?_
  try refine aC ?_
  refine iK λK hK=>?_;go_wp2_with ((go_at_call 68;(with_reducible refine (AL.out _ (BW.out.trans ((aM _ _).drew.mono BW.out.size))).mono ?_);rintro e w2 ⟨v,rfl,hr,hb2⟩;obtain ⟨ta,akm,rfl⟩:=bZ hr;have B2:=aa (BW.out.trans (((aM _ _).drew.trans hb2).mono BW.out.size));have N2:=aa (NB.out.below ((aM _ _).drew.trans hb2) NB.out.lt);have agv:ah (λ_=>False) _ w2:=ah.of_below hb2;clear hr hb2));refine iX hK (h:=?_);clear hK K
  try refine aC ?_;refine aj ?_
  refine fA λK hK=>?_;go_wp2_with ((go_at_call 79;(with_reducible refine (LE.out _ B2.out).mono ?_);rintro e w3 ⟨rfl,hb3⟩;have B3:=aa (B2.out.trans (hb3.mono B2.out.size));have N3:=aa (N2.out.below hb3 N2.out.lt);have n30:=N3.out.cell 0;have n31:=N3.out.cell 1;have n32:=N3.out.cell 2;have n33:=N3.out.cell 3;have zN3:=N3.out.lt;have nf3:=λj=>N3.out.frozen j;have ad6:ah (λ_=>False) _ w3:=ah.of_below hb3;clear hb3));refine hK.out _ _ ?_;clear hK K
  try refine aC ?_;refine aj ?_
  refine fA λK hK=>?_;go_wp2_with (fail);refine hK.out _ _ ?_;clear hK K
  try refine aC ?_
  refine aD ?_;go_wp2;refine aJ (λWf hWf=>?_);have hR:af Wf w.heap.size 124 #[.int .i64 (al:Int),.int .i64 0,.int .i64 gr,.int .i64 le]:=by rw [hWf];exact (((N3.out.set 0 _).set 1 _).set 2 _).set 3 _
  have r0:=hR.cell 0;have r1:=hR.cell 1;have r2:=hR.cell 2;have r3:=hR.cell 3;exact bodyPost_ret (v := .agg #[.int .i64 (al:Int),.int .i64 0,.int .i64 gr,.int .i64 le]) (by simp [results,Tryz.results74,go_sem,r0,r1,r2,r3]) rfl ⟨rfl,B3.out.trans (ah.below (X:=λb=>b=w.heap.size) (by rw [hWf];exact ((((ah.refl (λb=>b=w.heap.size) w3).set1 _ _).set1 _ _).set1 _ _).set1 _ _) B3.out.size (λk hk e=>by omega))⟩
 | false =>
  rw [hz,if_neg (by decide)] at c4;simp only [Bool.false_eq_true,if_false];have HX:=aa (h.i hz).1;obtain ⟨P,cap,hd0⟩:=HX.out.head;have zD:=HX.out.lt;have C3:=aa (λ(W:World) (hb:Below w.heap.size w W)=>(HX.out.later hb).cnt.1);have C2:=aa (λ(W:World) (hb:Below w.heap.size w W)=>(HX.out.later hb).cnt.2);generalize x.s.T.lv=lv at *
  generalize x.s.T.tb=tb at *
  generalize x.s.T.n=n at *
  clear h c0 c1 c2 hz HX;go_enter Tryz.func74,Tryz.ntmps74
  go_upto_region 4 with (fail)
  refine bG (λW hW=>?_);have BW:=aa (show Below w.heap.size w W by rw [hW];go_grown);have NB:=aa (show af W w.heap.size 124 #[.int .i64 0,.int .i64 0,.int .i64 0,.int .i64 0] by rw [hW];exact af.new _ _ _);have d3:=(BW.out.cell (p:=⟨R,3,none⟩) z).trans c3;have e0:=(BW.out.cell (p:=⟨p0.D,0,none⟩) zD).trans hd0;have zR:=bM z BW.out.size;have zE:=bM zD BW.out.size;clear hW c4 c3 hd0;refine ag (λ_=>False) #[⟨0,0,2^31,1,0⟩,⟨1,1,2^32,2^31,0⟩,⟨2,3,2^33,2^32,0⟩,⟨4,7,2^34,2^33,1⟩,⟨8,15,2^35,2^34,2⟩,⟨0,0,2^36,1,0⟩,⟨32,32,2^37,2^36,0⟩,⟨64,96,2^38,2^37,0⟩,⟨128,224,2^39,2^38,1⟩,⟨272,511,2^40,2^39,2⟩,⟨0,0,2^41,1,0⟩,⟨1024,1024,2^42,2^41,0⟩,⟨2048,3072,2^43,2^42,0⟩,⟨4096,7168,2^44,2^43,1⟩,⟨8192,15360,2^45,2^44,0⟩,⟨2^14,31744,2^46,2^45,0⟩,⟨2^15,64512,2^47,2^46,1⟩,⟨2^16,130048,2^48,2^47,0⟩,⟨(2^4+2^9+2^17),262143,2^49,(2^35+2^40+2^48),0⟩,⟨524287,524287,0,(2^2+2^49),3⟩] 73992 [(0,0),(1,0),(2,0),(3,1),(5,0),(6,0),(7,0),(8,1),(10,0),(11,0),(12,0),(13,1),(14,0),(15,0),(16,1),(17,0),(4,2),(9,2),(18,0),(19,3)] (by kernel_rfl) (by kernel_rfl) (by kernel_rfl) (by kernel_rfl) (by kernel_rfl) (by kernel_rfl) (λc a d v w h=>by cases d <;> exact h) ?_;refine aj ?_;refine aj ?_;refine aj ?_;refine bW Tryz.underlying75 ?_
  try refine aC ?_;refine aj ?_;refine aj ?_;refine aj ?_
  refine bW Tryz.underlying75 ?_
  try refine aC ?_;refine aj ?_;refine aj ?_;refine aj ?_
  refine bW Tryz.underlying75 ?_
  try refine aC ?_;refine aj ?_;refine aj ?_
  refine bW Tryz.underlying128 ?_
  try refine aC ?_;refine aj ?_
  refine iK λK hK=>?_;go_wp2_with (first|(go_at_call 131;(with_reducible refine (C3.out _ (BW.out.trans ((aM _ _).drew.mono BW.out.size))).mono ?_);rintro e w2 ⟨rfl,hb2⟩;have B2:=aa (BW.out.trans (((aM _ _).drew.trans hb2).mono BW.out.size));have N2:=aa (NB.out.below ((aM _ _).drew.trans hb2) NB.out.lt);have agv:ah (λ_=>False) _ w2:=ah.of_below hb2;clear hb2)|(go_at_call 131;(with_reducible refine (C2.out _ B2.out).mono ?_);rintro e w3 ⟨rfl,hb3⟩;have B3:=aa (B2.out.trans (hb3.mono B2.out.size));have N3:=aa (N2.out.below hb3 N2.out.lt);have n30:=N3.out.cell 0;have n31:=N3.out.cell 1;have n32:=N3.out.cell 2;have n33:=N3.out.cell 3;have zN3:=N3.out.lt;have nf3:=λj=>N3.out.frozen j;have ad6:ah (λ_=>False) _ w3:=ah.of_below hb3;clear hb3));refine iX hK (h:=?_);clear hK K
  try refine aC ?_
  refine iK λK hK=>?_;go_wp2_with (first|(go_at_call 131;(with_reducible refine (C3.out _ (BW.out.trans ((aM _ _).drew.mono BW.out.size))).mono ?_);rintro e w2 ⟨rfl,hb2⟩;have B2:=aa (BW.out.trans (((aM _ _).drew.trans hb2).mono BW.out.size));have N2:=aa (NB.out.below ((aM _ _).drew.trans hb2) NB.out.lt);have agv:ah (λ_=>False) _ w2:=ah.of_below hb2;clear hb2)|(go_at_call 131;(with_reducible refine (C2.out _ B2.out).mono ?_);rintro e w3 ⟨rfl,hb3⟩;have B3:=aa (B2.out.trans (hb3.mono B2.out.size));have N3:=aa (N2.out.below hb3 N2.out.lt);have n30:=N3.out.cell 0;have n31:=N3.out.cell 1;have n32:=N3.out.cell 2;have n33:=N3.out.cell 3;have zN3:=N3.out.lt;have nf3:=λj=>N3.out.frozen j;have ad6:ah (λ_=>False) _ w3:=ah.of_below hb3;clear hb3));refine iX hK (h:=?_);clear hK K
  try refine aC ?_;refine aj ?_
  refine fA λK hK=>?_;go_wp2_with (fail);refine hK.out _ _ ?_;clear hK K
  try refine aC ?_
  refine aD ?_;go_wp2;refine aJ (λWf hWf=>?_);have hR:af Wf w.heap.size 124 #[.int .i64 lv,.int .i64 tb,.int .i64 (n:Int),.int .i64 0]:=by rw [hWf];exact (((N3.out.set 0 _).set 1 _).set 2 _).set 3 _
  have r0:=hR.cell 0;have r1:=hR.cell 1;have r2:=hR.cell 2;have r3:=hR.cell 3;exact bodyPost_ret (v := .agg #[.int .i64 lv,.int .i64 tb,.int .i64 (n:Int),.int .i64 0]) (by simp [results,Tryz.results74,go_sem,r0,r1,r2,r3]) rfl ⟨rfl,B3.out.trans (ah.below (X:=λb=>b=w.heap.size) (by rw [hWf];exact ((((ah.refl (λb=>b=w.heap.size) w3).set1 _ _).set1 _ _).set1 _ _).set1 _ _) B3.out.size (λk hk e=>by omega))⟩
theorem RN.rQ (h:RN w R Rb X gt aH p0 pt x L0 Lc) (gl:Int):Calls Tryz.prog 27 #[.pointer (some ⟨R,0,none⟩),.int .i64 gl] w λe w'=>e = .returned (.tuple #[.int .i64 (x.wants gl),.bool (x.dbl gl)])/\Below w.heap.size w w':=by
 obtain ⟨c0,c1,c2,c3,c4,z⟩:=h.cells;unfold bH.wants bH.dbl;cases hz:x.bz with
 | true =>
  rw [hz,if_pos rfl] at c4;simp only [if_pos];clear h c0 c1 c2 c3 hz;go_enter Tryz.func27,Tryz.ntmps27
  go_wp2;go_ret2;exact ⟨rfl,by go_grown⟩
 | false =>
  rw [hz,if_neg (by decide)] at c4;simp only [Bool.false_eq_true,if_false];have NU:=aa h.QG;unfold bH.nums bH.len bH.tmb bH.grp bH.lft at NU;rw [hz] at NU;simp only [Bool.false_eq_true,if_false] at NU;generalize x.s.T.lv=lv at *
  generalize x.s.T.tb=tb at *
  generalize x.s.T.n=n at *
  generalize x.d=d at *
  have WH:=aa (λ(W:World)=>ou lv tb (n:Int) (d:Int) gl W);have DO:=aa (λ(W:World)=>GM lv tb (n:Int) (d:Int) gl W);generalize dY lv tb (n:Int) (d:Int) gl=wi at *
  generalize fV lv tb (n:Int) (d:Int) gl=db at *
  clear h c0 c2 c3 hz;go_enter Tryz.func27,Tryz.ntmps27
  go_upto_region 4 with (go_at_call 74;(with_reducible refine NU.out.mono ?_);rintro e w1 ⟨rfl,hb1⟩;have B1:=aa hb1)
  refine bG (λW hW=>?_);obtain ⟨P9,hP9⟩:=dC w1.heap.size;have Rc:af W P9 124 #[.int .i64 lv,.int .i64 tb,.int .i64 (n:Int),.int .i64 0]:=by rw [hW,hP9];exact af.new _ _ _
  have BW:=aa (B1.out.trans (show Below w.heap.size w1 W from (show Below w1.heap.size w1 W by rw [hW];go_grown).mono B1.out.size));have k0:=Rc.cell 0;have k1:=Rc.cell 1;have k2:=Rc.cell 2;have k3:=Rc.cell 3;have zP:=Rc.lt;have d1:=(BW.out.cell (p:=⟨R,1,none⟩) z).trans c1;have zR:=bM z BW.out.size;rw [<-hP9];clear hW hP9 Rc NU hb1 B1 c1 c4;refine ag (λ_=>False) #[⟨0,0,2^14,64,0⟩,⟨1,1,2^15,2^14,1⟩,⟨0,0,2^16,64,0⟩,⟨4,4,2^17,2^16,1⟩,⟨0,0,2^18,64,0⟩,⟨16,16,2^19,2^18,1⟩,⟨0,0,2^20,1,0⟩,⟨64,64,2^21,2^20,0⟩,⟨128,192,2^22,2^21,0⟩,⟨256,448,2^23,2^22,1⟩,⟨0,0,2^24,2,0⟩,⟨1578,2047,2^25,25853952,2⟩,⟨0,0,2^26,64,0⟩,⟨4096,4096,2^27,2^26,1⟩,⟨0,0,2^28,64,0⟩,⟨2^14,2^14,2^29,2^28,1⟩,⟨0,0,2^30,64,0⟩,⟨2^16,2^16,2^31,2^30,1⟩,⟨0,0,2^32,1,0⟩,⟨2^18,2^18,2^33,2^32,0⟩,⟨2^19,(2^18+2^19),2^34,2^33,0⟩,⟨2^20,(2^18+2^19+2^20),2^35,2^34,1⟩,⟨0,0,2^36,2,0⟩,⟨6465536,8388607,2^37,105897787392,3⟩,⟨8392703,16777215,16,2^25,0⟩,⟨33554431,33554431,32,2^37,0⟩] 2269738 [(0,0),(1,1),(2,0),(3,1),(4,0),(5,1),(6,0),(7,0),(8,0),(9,1),(10,0),(12,0),(13,1),(14,0),(15,1),(16,0),(17,1),(18,0),(19,0),(20,0),(21,1),(22,0),(11,2),(23,3),(24,0),(25,0)] (by kernel_rfl) (by kernel_rfl) (by kernel_rfl) (by kernel_rfl) (by kernel_rfl) (by kernel_rfl) (λc a d v w h=>by cases d <;> exact h) ?_;refine aj ?_;refine bW Tryz.underlying3 ?_
  try refine aC ?_;refine aj ?_
  refine bW Tryz.underlying3 ?_
  try refine aC ?_;refine aj ?_
  refine bW Tryz.underlying3 ?_
  try refine aC ?_;refine aj ?_;refine aj ?_;refine aj ?_
  refine bW Tryz.underlying3 ?_
  try refine aC ?_;refine aj ?_;refine aj ?_
  refine bW Tryz.underlying3 ?_
  try refine aC ?_;refine aj ?_
  refine bW Tryz.underlying3 ?_
  try refine aC ?_;refine aj ?_
  refine bW Tryz.underlying3 ?_
  try refine aC ?_;refine aj ?_;refine aj ?_;refine aj ?_
  refine bW Tryz.underlying3 ?_
  try refine aC ?_;refine aj ?_
  refine iK λK hK=>?_;go_wp2_with ((go_at_call 75;(with_reducible refine (WH.out _).mono ?_);rintro e w2 ⟨rfl,rfl⟩));refine iX hK (h:=?_);clear hK K
  try refine aC ?_
  refine fA λK hK=>?_;go_wp2_with ((go_at_call 76;(with_reducible refine (DO.out _).mono ?_);rintro e w3 ⟨rfl,rfl⟩));refine hK.out _ _ ?_;clear hK K
  try refine aC ?_;refine aj ?_;refine aj ?_
  refine aD ?_;go_wp2;go_ret2;exact ⟨rfl,BW.out.trans ((aM _ _).drew.mono BW.out.size)⟩
end
theorem Cb {T:ae} (hT:bq T) (key:Int) (h:Nat):T.looks key h<=64:=by
 have h1:=(jk (λj=>T.stop key h (T.wk h j)) T.n 0).2.1;have h2:=hT.bounds;unfold ae.looks;omega
def RX (Rb X gt:Nat) (p0:PB) (pt:Nat->PB) (x:bH) (b:Nat):Prop:=(x.bz=false/\p0.mid<=b/\b<p0.hi)\/(x.bz=true/\(kT Rb X p0 pt x.s.k b\/b=gt))
def iw (w:World) (R:Nat) (x:bH) (m:Int) (Z:Nat->Prop):Prop := ∃Rb X gt aH p0 pt L0 Lc,RN w R Rb X gt aH p0 pt x L0 Lc/\(∀b,RX Rb X gt p0 pt x b->Z b/\b≠R)/\Z R/\(0<=L0/\L0<=m)/\(x.bz=true->∀i,i<x.s.k->0<=Lc i/\Lc i<=m)/\∀b,Z b->b<w.heap.size
section
variable {w w':World} {R:Nat} {x:bH} {m:Int} {Z:Nat->Prop}
theorem RN.aA {Rb X gt aH:Nat} {p0:PB} {pt:Nat->PB} {L0:Int} {Lc:Nat->Int} {Y:Nat->Prop} (h:RN w R Rb X gt aH p0 pt x L0 Lc) (hc:ah Y w w') (hR:¬Y R) (hY:∀b,RX Rb X gt p0 pt x b->¬Y b):RN w' R Rb X gt aH p0 pt x L0 Lc :=
 ⟨h.b.aA hc hR,λhz=>⟨(h.i hz).1.aA hc (λb e1 e2=>hY b (.inl ⟨hz,e1,e2⟩)),(h.i hz).2⟩,λhz=>⟨(h.u hz).1.aA hc (λb e=>hY b (.inr ⟨hz,.inl e⟩)) (hY _ (.inr ⟨hz,.inr rfl⟩)),(h.u hz).2⟩⟩
theorem iw.aA {Y:Nat->Prop} (h:iw w R x m Z) (hc:ah Y w w') (hY:∀b,Z b->¬Y b):iw w' R x m Z:=by
 obtain ⟨Rb,X,gt,aH,p0,pt,L0,Lc,h1,h2,h3,h4,h5,h6⟩:=h;exact ⟨Rb,X,gt,aH,p0,pt,L0,Lc,h1.aA hc (hY _ h3) (λb e=>hY b (h2 b e).1),h2,h3,h4,h5,λb e=>bM (h6 b e) hc.size⟩
theorem iw.later (h:iw w R x m Z) (hb:Below w.heap.size w w'):iw w' R x m Z:=h.aA (ah.of_below (X:=λ_=>False) hb) (λ_ _ e=>e)
theorem iw.lt (h:iw w R x m Z):∀b,Z b->b<w.heap.size:=by obtain ⟨Rb,X,gt,aH,p0,pt,L0,Lc,h1,h2,h3,h4,h5,h6⟩:=h;exact h6
theorem iw.more {m':Int} (h:iw w R x m Z) (hm:m<=m'):iw w R x m' Z:=by
 obtain ⟨Rb,X,gt,aH,p0,pt,L0,Lc,h1,h2,h3,h4,h5,h6⟩:=h;exact ⟨Rb,X,gt,aH,p0,pt,L0,Lc,h1,h2,h3,by omega,λhz i hi=>by have:=h5 hz i hi;omega,h6⟩
theorem iw.ae6 (h:iw w R x m Z):Calls Tryz.prog 24 #[.pointer (some ⟨R,0,none⟩)] w λe w' =>
 ∃v,e = .returned v/\w'.ownsRow w.heap.size 46 3 v x.all.length (cB x.all)/\Below w.heap.size w w':=by
 obtain ⟨Rb,X,gt,aH,p0,pt,L0,Lc,h1,-⟩:=h;exact h1.ae6
theorem iw.QG (h:iw w R x m Z):Calls Tryz.prog 74 #[.pointer (some ⟨R,0,none⟩)] w λe w'=>e = .returned x.nums/\Below w.heap.size w w':=by
 obtain ⟨Rb,X,gt,aH,p0,pt,L0,Lc,h1,-⟩:=h;exact h1.QG
theorem iw.rQ (h:iw w R x m Z) (gl:Int):Calls Tryz.prog 27 #[.pointer (some ⟨R,0,none⟩),.int .i64 gl] w λe w'=>e = .returned (.tuple #[.int .i64 (x.wants gl),.bool (x.dbl gl)])/\Below w.heap.size w w':=by
 obtain ⟨Rb,X,gt,aH,p0,pt,L0,Lc,h1,-⟩:=h;exact h1.rQ gl
theorem iw.cells (h:iw w R x m Z):w.cell? ⟨R,0,none⟩=some (.int .i64 (x.p:Int))/\w.cell? ⟨R,1,none⟩=some (.int .i64 (x.d:Int))/\w.cell? ⟨R,2,none⟩=some (.int .i64 x.Ey)/\R<w.heap.size:=by
 obtain ⟨Rb,X,gt,aH,p0,pt,L0,Lc,h1,-⟩:=h;obtain ⟨c0,c1,c2,-,-,z⟩:=h1.cells;exact ⟨c0,c1,c2,z⟩
theorem iw.iq (h:iw w R x m Z):∃Rb,w.cell? ⟨R,0,none⟩=some (.int .i64 (x.p:Int))/\w.cell? ⟨R,1,none⟩=some (.int .i64 (x.d:Int))/\w.cell? ⟨R,2,none⟩=some (.int .i64 x.Ey)/\w.cell? ⟨R,4,none⟩=some (.pointer (if x.bz=true then some ⟨Rb,0,none⟩ else none))/\R<w.heap.size:=by
 obtain ⟨Rb,X,gt,aH,p0,pt,L0,Lc,h1,-⟩:=h;obtain ⟨c0,c1,c2,-,c4,z⟩:=h1.cells;exact ⟨Rb,c0,c1,c2,c4,z⟩
theorem iw.Nn {Rb X gt aH:Nat} {p0:PB} {pt:Nat->PB} {L0 L' m':Int} {Lc:Nat->Int} {T':ae} (hz:x.bz=false) (h1:RN w R Rb X gt aH p0 pt x L0 Lc) (h2:∀b,RX Rb X gt p0 pt x b->Z b/\b≠R) (h3:Z R) (h6:∀b,Z b->b<w.heap.size) (hL:0<=L'/\L'<=m')
 (hd:DX w' p0.mid p0.hi p0.D T' L') (hc:ah (λb=>p0.mid<=b/\b<p0.hi) w w'):iw w' R { x with s:=x.s.ny T'} m' Z/\ah Z w w':=by
 refine ⟨⟨Rb,X,gt,aH,p0,pt,L',Lc,⟨?_,λ_=>⟨hd,(h1.i hz).2⟩,λe=>?_⟩,λb e=>?_,h3,hL,λe=>?_,λb e=>bM (h6 b e) hc.size⟩,hc.mono (λb _ e=>(h2 b (.inl ⟨hz,e⟩)).1)⟩
 . exact h1.b.aA hc (λe=>(h2 R (.inl ⟨hz,e⟩)).2 rfl)
 . exact absurd hz (by rw [show x.bz=true from e];decide)
 . rcases e with ⟨-,e⟩ | ⟨e,-⟩
   . exact h2 b (.inl ⟨hz,e⟩)
   . exact absurd hz (by rw [show x.bz=true from e];decide)
 . exact absurd hz (by rw [show x.bz=true from e];decide)
theorem iw.mH {Rb X gt aH:Nat} {p0:PB} {pt:Nat->PB} {L0 L' m':Int} {Lc mG:Nat->Int} {s':DuS} (hz:x.bz=true) (h1:RN w R Rb X gt aH p0 pt x L0 Lc) (h2:∀b,RX Rb X gt p0 pt x b->Z b/\b≠R) (h3:Z R) (h6:∀b,Z b->b<w.heap.size) (hL:0<=L'/\L'<=m') (hk:s'.k=x.s.k) (jT:∀i,i<x.s.k->0<=mG i/\mG i<=m')
 (hd:DM w' Rb X gt aH p0 pt s' false L' mG) (hok:dW s') (hc:ah (kT Rb X p0 pt x.s.k) w w'):iw w' R { x with s:=s'} m' Z/\ah Z w w':=by
 refine ⟨⟨Rb,X,gt,aH,p0,pt,L',mG,⟨?_,λe=>?_,λ_=>⟨hd,hok⟩⟩,λb e=>?_,h3,hL,λ_ i hi=>jT i (by rw [<-hk];exact hi),λb e=>bM (h6 b e) hc.size⟩,hc.mono (λb _ e=>(h2 b (.inr ⟨hz,.inl e⟩)).1)⟩
 . exact h1.b.aA hc (λe=>(h2 R (.inr ⟨hz,.inl e⟩)).2 rfl)
 . exact absurd hz (by rw [show x.bz=false from e];decide)
 . rcases e with ⟨e,-⟩ | ⟨-,e⟩
   . exact absurd hz (by rw [show x.bz=false from e];decide)
   . refine h2 b (.inr ⟨hz,?_⟩);rw [<-hk];exact e
theorem iw.put (h:iw w R x m Z) (hm:m<=90000000) (key v:Int) (hs:Nat) (more:Bool) (hh:hs<18446744073709551616) :
 Calls Tryz.prog 21 #[.pointer (some ⟨R,0,none⟩),.agg #[.int .u64 key,.int .u64 v,.int .u64 (hs:Int)],.bool more] w λe w' =>
  e = .returned (.tuple #[.bool (x.s.bB key hs more),.int .i64 ((x.s.bN key hs more:Nat):Int)])/\iw w' R { x with s:=x.s.put key v hs more} (m+200) Z/\ah Z w w':=by
 obtain ⟨Rb,X,gt,aH,p0,pt,L0,Lc,h1,h2,h3,h4,h5,h6⟩:=h;obtain ⟨c0,c1,c2,c3,c4,z⟩:=h1.cells;have HB:=aa (show Below w.heap.size w (w.alloc (.cells #[.int .u64 key,.int .u64 v,.int .u64 (hs:Int)] 46)) from (aM _ _).alloc (aL _) _);rcases Bool.eq_false_or_eq_true x.bz with hz|hz
 . rw [if_pos hz] at c4;obtain ⟨hd,hok⟩:=h1.u hz;have hyk:=hok.yk hs;have hlT:x.s.jZ key hs<=64:=by unfold DuS.jZ;split;omega;exact Cb hok.t _ _
   have hlU:x.s.jY key hs<=64:=by unfold DuS.jY;split;exact Cb (hok.u _ hyk).1 _ _;omega
   have jT:=h5 hz;have PU:=aa ((hd.later (HB.out.drew)).put hyk (by omega) (by have:=jT _ hyk;omega) key v more hh)
   have FI:=aa (λ(wf:World) (hd':DM wf Rb X gt aH p0 pt (x.s.put key v hs more) false (L0+x.s.jZ key hs) (upd Lc (x.s.y hs) (Lc (x.s.y hs)+x.s.jY key hs))) (hc:ah (kT Rb X p0 pt x.s.k) w wf)=>iw.mH (m':=m+200) hz h1 h2 h3 h6 (by omega) (pF x.s key v hs more).1 (λi hi=>by
    by_cases e:i=x.s.y hs
    . rw [e,upd_same];have:=jT _ hyk;omega
    . rw [ay _ _ e];have:=jT i hi;omega) hd' (hok.put key v hh more) hc)
   generalize x.s.bB key hs more=pb at *
   generalize ((x.s.bN key hs more:Nat):Int)=pn at *
   clear h1 h2 h3 h4 h5 h6 c0 c1 c2 c3 hz hd hok hyk hlT hlU jT;go_enter Tryz.func21,Tryz.ntmps21
   go_upto_region 2 with (fail)
   refine ag (λ_=>False) #[⟨0,0,2^15,1,0⟩,⟨1,1,2^16,2^15,0⟩,⟨2,3,2^17,2^16,0⟩,⟨4,7,2^18,2^17,1⟩,⟨0,0,2^19,16,1⟩,⟨0,0,2^20,4,0⟩,⟨56,63,2^21,(2^18+2^19+2^20),3⟩,⟨64,127,2^22,2^21,0⟩,⟨64,127,2^23,2^21,0⟩,⟨511,511,64,2^22,0⟩,⟨1023,1023,128,2^23,0⟩] 24 [(0,0),(1,0),(2,0),(3,1),(4,1),(5,0),(6,3),(7,0),(8,0),(9,0),(10,0)] (by kernel_rfl) (by kernel_rfl) (by kernel_rfl) (by kernel_rfl) (by kernel_rfl) (by kernel_rfl) (λc a d v w h=>by cases d <;> exact h) ?_;refine aj ?_;refine aj ?_;refine aj ?_;refine bW Tryz.underlying76 ?_
   try refine aC ?_
   refine jR [_,_,_] Tryz.underlying46 ?_
   try refine aC ?_;refine aj ?_
   refine fA λK hK=>?_;go_wp2_with (go_at_call 63;(with_reducible refine PU.out.mono ?_);rintro e w1 ⟨rfl,hd1,hc1⟩;have D1:=aa hd1;have C1:=aa (ah.trans (ah.of_below HB.out) hc1.bS));refine hK.out _ _ ?_;clear hK K
   try refine aC ?_;refine aj ?_;refine aj ?_;refine aj ?_;refine aj ?_
   refine aD ?_;go_wp2;go_ret2;exact ⟨rfl,FI.out _ D1.out C1.out⟩
 . rw [if_neg (by rw [hz];decide)] at c4;obtain ⟨hd,Ka⟩:=h1.i hz;have hlk:=Cb hd.good key hs;obtain ⟨DD,hDD⟩:=dC p0.D;have hid:=hd.id;have hhz:=hd.hz;have zD:=hd.lt;have HD:=aa hd;have FN:=aa (λ(W:World) (hd':DX W p0.mid p0.hi p0.D x.s.T L0)=>hd'.find (by omega) key hs hh);have PT:=aa (λ(W:World) (hd':DX W p0.mid p0.hi p0.D x.s.T (L0+x.s.T.looks key hs))=>hd'.put (by omega) key v hs hh);have FI:=aa (λ(wf:World) (L':Int) (T':ae) (hL:0<=L'/\L'<=m+200) (hd':DX wf p0.mid p0.hi p0.D T' L') (hc:ah (λb=>p0.mid<=b/\b<p0.hi) w wf)=>iw.Nn (m':=m+200) hz h1 h2 h3 h6 hL hd' hc);have hRD:¬R=DD:=λe=>(h2 p0.D (.inl ⟨hz,hid⟩)).2 (by rw [<-hDD,e])
   have HA:=aa (show x.s.T.has key hs=true->x.s.put key v hs more=x.s.ny (x.s.T.aR key v hs)/\x.s.bB key hs more=x.s.T.bB key hs/\x.s.bN key hs more=x.s.T.bN key hs from λhq=>by
    obtain ⟨a1,a2,a3⟩:=Da Ka hq v more;refine ⟨a1,?_,by rw [a3,Ee hq]⟩
    rw [a2];unfold ae.bB;rw [hq];rfl)
   have HNo:=aa (λ(hq:x.s.T.has key hs=false)=>EA Ka hq v);have HP:=aa (Lp Ka key v hs);rw [<-hDD] at c3 hid zD HD FN PT FI;obtain ⟨hq,hhq⟩:=dC (x.s.T.has key hs);rw [<-hhq] at HA HNo FN;obtain ⟨EE,hEE⟩:=dC w.heap.size;have hED:¬EE=DD:=by omega
   have hl4:=h4;generalize x.s.T.looks key hs=lk at *
   clear h1 h2 h3 h4 h5 h6 c0 c1 c2 hz Ka hhq;go_enter Tryz.func21,Tryz.ntmps21
   go_upto_region 3 with (fail)
   refine bG (λW hW=>?_);have BW:=aa (show Below w.heap.size w W by rw [hW];go_grown);have EB:=aa (show af W EE 46 #[.int .u64 key,.int .u64 v,.int .u64 (hs:Int)] by rw [hW,hEE];exact af.new _ _ _);have d3:=(BW.out.cell (p:=⟨R,3,none⟩) z).trans c3;have zR:=bM z BW.out.size;have zDW:=bM zD BW.out.size;obtain ⟨e0,e1,e2⟩:=cells3 EB.out;have zE:=EB.out.lt;have XW:=aa (HD.out.later BW.out);have hDE:=aa hED;have hDP:=aa (show ¬W.heap.size=DD by omega);have hPE:¬W.heap.size=EE:=by omega
   rw [<-hEE];replace hEE:=aa hEE;replace hDD:=aa hDD;clear hW c3 c4 HB;go_cut [9] (λv9 wx=>v9 = .bool hq/\DX wx p0.mid p0.hi DD x.s.T (L0+lk)/\af wx EE 46 #[.int .u64 key,.int .u64 v,.int .u64 (hs:Int)]/\ah (λb=>b=DD) W wx)
   case first =>
    refine cZ (λb=>b=DD) #[⟨0,0,2^25,1,0⟩,⟨1,1,2^26,2^25,0⟩,⟨2,3,2^27,2^26,0⟩,⟨4,7,2^28,2^27,1⟩,⟨0,0,2^29,16,0⟩,⟨16,16,2^30,2^29,1⟩,⟨0,0,2^31,16,0⟩,⟨64,64,2^32,2^31,1⟩,⟨168,255,2^33,(2^28+2^30+2^32),3⟩,⟨256,511,2^24,2^33,0⟩,⟨512,1023,2^34,2^24,0⟩,⟨512,1023,2^35,2^24,0⟩,⟨0,0,256,0,2⟩,⟨6143,6143,0,(2^8+2^34),3⟩,⟨16383,16383,512,2^35,0⟩] 168 (.step 0 0 (.step 1 0 (.step 2 0 (.step 3 1 (.step 4 0 (.step 5 1 (.step 6 0 (.step 7 1 (.fork (.alt 8 (.step 9 0 (.step 10 0 (.step 11 0 (.step 12 2 (.step 13 3 (.step 14 0 bu.done)))))) (.alt 12 (.step 8 3 (.step 9 0 (.step 10 0 (.step 11 0 (.step 13 3 (.step 14 0 bu.done)))))) bu.none))))))))))) (by kernel_rfl) (by kernel_rfl) (by kernel_rfl) (by kernel_rfl) (by kernel_rfl) (by kernel_rfl) (λc a d v w h=>by cases d <;> exact h) ?_;refine cO ?_;refine cO ?_;refine cO ?_;refine qV Tryz.underlying75 ?_
    try refine bF ?_;refine cO ?_
    refine qV Tryz.underlying38 ?_
    try refine bF ?_;refine cO ?_
    refine qV Tryz.underlying38 ?_
    try refine bF ?_
    refine BH (λK hK=>?_) λK hK=>?_
    (go_wp2_with (go_at_call 64;((with_reducible refine (FN.out _ (by exact XW.out.later (aM _ _).drew)).mono ?_);rintro e w1 ⟨rfl,hd1,hc1⟩;(((have D1:Hid (DX w1 _ _ _ _ _):=aa hd1;have E1:=aa ((show af W.drew EE 46 _ from EB.out).aA hc1 hDE.out);have C1:Hid (ah (λb=>b=DD) W w1):=aa (ah.bS hc1);have hcX:ah (λb=>b=DD) _ w1:=hc1;have NA:=aa (show af W.drew EE 46 _ from EB.out))))));refine eQ hK (h:=?_);clear hK K)
    try refine bF ?_;refine cO ?_;refine cO ?_;refine cO ?_
    refine qU λK hK=>?_;go_wp2_with (fail);refine eQ hK (h:=?_);clear hK K
    try refine bF ?_
    refine iC λK hK=>?_;go_wp2_with (fail);refine hK.out _ _ ?_;clear hK K
    try refine bF ?_;refine cO ?_
    refine bP ?_
    rotate_left 1
    (go_wp2_with (fail);refine eQ hK (h:=?_);clear hK K)
    try refine bF ?_
    refine iC λK hK=>?_;go_wp2_with (go_at_call 64;((with_reducible refine (FN.out _ (by exact (XW.out.later (aM _ _).drew).later ((aM _ _).alloc (aL _) _))).mono ?_);rintro e w1 ⟨rfl,hd1,hc1⟩;(((have D1:Hid (DX w1 _ _ _ _ _):=aa hd1;have E1:=aa ((show af (W.drew.alloc _) EE 46 _ from EB.out.drew.alloc _).aA hc1 hDE.out);have C1:Hid (ah (λb=>b=DD) W w1):=aa (ah.bS (((ah.refl _ W.drew).alloc _).trans hc1));have hcX:ah (λb=>b=DD) _ w1:=hc1;have P1:Hid (af w1 W.heap.size 46 #[.int .u64 0,.int .u64 0,.int .u64 0]):=aa ((af.new W.drew 46 _).aA hc1 hDP.out);have q1:=cells3 P1.out;have QE:=q1.1;have KI:=q1.2.1;have q12:=q1.2.2;clear q1;have pf1:=λj=>P1.out.frozen j;have zP1:=P1.out.lt)))));refine hK.out _ _ ?_;clear hK K
    try refine bF ?_;refine cO ?_;refine cO ?_;refine cO ?_
    refine iC λK hK=>?_;go_wp2_with (fail);refine hK.out _ _ ?_;clear hK K
    try refine bF ?_;refine cO ?_
    refine bP ?_
    rotate_left 1
    rotate_right 2
    all_goals (go_wp2;go_meet)
    all_goals
     first
      | exact ⟨rfl,D1.out.later ((aM _ _).alloc (aL _) _),E1.out.alloc _,C1.out.alloc _⟩
      | exact ⟨rfl,D1.out.aA (((ah.refl (λb=>b=W.heap.size) _).set1 _ _).set1 _ _ |>.set1 _ _) (λb a1 a2 e=>by have:=BW.out.size;omega),E1.out.aA (((ah.refl (λb=>b=W.heap.size) _).set1 _ _).set1 _ _ |>.set1 _ _) (λe=>hPE e.symm),C1.out.trans' (((ah.refl (λb=>b=W.heap.size) _).set1 _ _).set1 _ _ |>.set1 _ _) (λb hb e=>by omega)⟩
   case rest =>
    obtain ⟨rfl,hD,hE,hC⟩:=hcut;have XC:=aa hD;have CC:=aa hC;obtain ⟨f0,f1,f2⟩:=cells3 hE;have zE2:=hE.lt;have d3c:=(hC.cell (p:=⟨R,3,none⟩) zR hRD).trans d3;have zR2:=bM zR hC.size;have hfin:ah (λb=>p0.mid<=b/\b<p0.hi) w wc:=(ah.of_below BW.out).trans (hC.mono (λb _ e=>by rw [e];exact hid));have HF:=aa hfin;clear hD hE hC d3 e0 e1 e2 zE hfin XW FN EB;cases hhq:hq with
    | true =>
     have AA:=aa (HA.out hhq);clear hhq;go_upto_region 6 with (fail)
     refine ag (λ_=>False) #[⟨0,0,2^42,1,0⟩,⟨1,1,2^43,2^42,0⟩,⟨2,3,2^44,2^43,0⟩,⟨4,7,2^45,2^44,1⟩,⟨0,0,2^46,16,1⟩,⟨24,31,2^47,(2^45+2^46),3⟩,⟨32,63,2^48,2^47,0⟩,⟨32,63,2^49,2^47,0⟩,⟨255,255,64,2^48,0⟩,⟨511,511,128,2^49,0⟩] 24 [(0,0),(1,0),(2,0),(3,1),(4,1),(5,3),(6,0),(7,0),(8,0),(9,0)] (by kernel_rfl) (by kernel_rfl) (by kernel_rfl) (by kernel_rfl) (by kernel_rfl) (by kernel_rfl) (λc a d v w h=>by cases d <;> exact h) ?_;refine aj ?_;refine aj ?_;refine aj ?_;refine bW Tryz.underlying75 ?_
     try refine aC ?_
     refine jR [_,_,_] Tryz.underlying46 ?_
     try refine aC ?_
     refine fA λK hK=>?_;go_wp2_with (go_at_call 65;(with_reducible refine (PT.out _ (XC.out.later (aM _ _).drew)).mono ?_);rintro e w2 ⟨rfl,hd2,hc2⟩;have D2:=aa hd2;have C2:=aa (HF.out.trans hc2.bS));refine hK.out _ _ ?_;clear hK K
     try refine aC ?_;refine aj ?_;refine aj ?_;refine aj ?_;refine aj ?_
     refine aD ?_;go_wp2;go_ret2;exact ⟨by rw [AA.out.2.1,AA.out.2.2];rfl,by rw [AA.out.1];exact FI.out _ _ _ (by omega) D2.out C2.out⟩
    | false =>
     rcases Bool.eq_false_or_eq_true more with hmo|hmo
     . subst hmo;have AA:=aa HP.out;clear hhq;go_upto_region 6 with (fail)
       refine ag (λ_=>False) #[⟨0,0,2^42,1,0⟩,⟨1,1,2^43,2^42,0⟩,⟨2,3,2^44,2^43,0⟩,⟨4,7,2^45,2^44,1⟩,⟨0,0,2^46,16,1⟩,⟨24,31,2^47,(2^45+2^46),3⟩,⟨32,63,2^48,2^47,0⟩,⟨32,63,2^49,2^47,0⟩,⟨255,255,64,2^48,0⟩,⟨511,511,128,2^49,0⟩] 24 [(0,0),(1,0),(2,0),(3,1),(4,1),(5,3),(6,0),(7,0),(8,0),(9,0)] (by kernel_rfl) (by kernel_rfl) (by kernel_rfl) (by kernel_rfl) (by kernel_rfl) (by kernel_rfl) (λc a d v w h=>by cases d <;> exact h) ?_;refine aj ?_;refine aj ?_;refine aj ?_;refine bW Tryz.underlying75 ?_
       try refine aC ?_
       refine jR [_,_,_] Tryz.underlying46 ?_
       try refine aC ?_
       refine fA λK hK=>?_;go_wp2_with (go_at_call 65;(with_reducible refine (PT.out _ (XC.out.later (aM _ _).drew)).mono ?_);rintro e w2 ⟨rfl,hd2,hc2⟩;have D2:=aa hd2;have C2:=aa (HF.out.trans hc2.bS));refine hK.out _ _ ?_;clear hK K
       try refine aC ?_;refine aj ?_;refine aj ?_;refine aj ?_;refine aj ?_
       refine aD ?_;go_wp2;go_ret2;exact ⟨by rw [AA.out.2.1,AA.out.2.2];rfl,by rw [AA.out.1];exact FI.out _ _ _ (by omega) D2.out C2.out⟩
     . subst hmo;have AA:=aa (HNo.out hhq);clear hhq;go_wp2;go_ret2;exact ⟨by rw [AA.out.2.1,AA.out.2.2];rfl,by rw [AA.out.1];exact FI.out _ _ _ (by omega) XC.out HF.out⟩
end
section
variable {w w':World} {R:Nat} {x:bH} {m:Int} {Z:Nat->Prop}
theorem iw.del (h:iw w R x m Z) (hm:m<=90000000) (key:Int) (hs:Nat) (hh:hs<18446744073709551616) :
 Calls Tryz.prog 22 #[.pointer (some ⟨R,0,none⟩),.int .u64 key,.int .u64 (hs:Int)] w λe w' =>
  e = .returned (.tuple #[.agg #[.int .u64 (x.s.bA key hs).key,.int .u64 (x.s.bA key hs).val,.int .u64 (x.s.bA key hs).hash],.bool (x.s.has key hs)])/\iw w' R { x with s:=x.s.del key hs} (m+200) Z/\ah Z w w':=by
 obtain ⟨Rb,X,gt,aH,p0,pt,L0,Lc,h1,h2,h3,h4,h5,h6⟩:=h;obtain ⟨c0,c1,c2,c3,c4,z⟩:=h1.cells;have zz:∀b,RX Rb X gt p0 pt x b->b<w.heap.size:=λb e=>h6 b (h2 b e).1;have ZZ:=aa zz;have HB:=aa (show Below w.heap.size w (w.alloc (.cells #[.int .u64 0,.int .u64 0,.int .u64 0] 46)) from (aM _ _).alloc (aL _) _);have HE:=aa (show af (w.alloc (.cells #[.int .u64 0,.int .u64 0,.int .u64 0] 46)) w.heap.size 46 #[.int .u64 0,.int .u64 0,.int .u64 0] from af.new _ _ _);rcases Bool.eq_false_or_eq_true x.bz with hz|hz
 . rw [if_pos hz] at c4;obtain ⟨hd,hok⟩:=h1.u hz;have hyk:=hok.yk hs;have hlT:x.s.jZ key hs<=64:=by unfold DuS.jZ;split;omega;exact Cb hok.t _ _
   have hlU:x.s.jY key hs<=64:=by unfold DuS.jY;split;exact Cb (hok.u _ hyk).1 _ _;omega
   have jT:=h5 hz;have DE:=aa ((hd.later HB.out).del hyk (by omega) (by have:=jT _ hyk;omega) key hh);have HN:=aa (show ¬kT Rb X p0 pt x.s.k w.heap.size from λe=>by have:=zz w.heap.size (.inr ⟨hz,.inl e⟩);omega)
   have FI:=aa (λ(w1 wf:World) (hd':DM w1 Rb X gt aH p0 pt (x.s.del key hs) false (L0+x.s.jZ key hs) (upd Lc (x.s.y hs) (Lc (x.s.y hs)+x.s.jY key hs))) (hc:ah (kT Rb X p0 pt x.s.k) w w1) (hw:w.heap.size<w1.heap.size) (hcf:ah (λb=>b=w.heap.size) w1 wf)=>iw.mH (m':=m+200) hz h1 h2 h3 h6 (by omega) (Q4 x.s key hs) (λi hi=>by
    by_cases e:i=x.s.y hs
    . rw [e,upd_same];have:=jT _ hyk;omega
    . rw [ay _ _ e];have:=jT i hi;omega) (hd'.aA hcf (λb e f=>by rw [Q4] at e;have:=zz b (.inr ⟨hz,.inl e⟩);omega) (λf=>by have:=zz gt (.inr ⟨hz,.inr rfl⟩);omega)) (hok.del key hs) (hc.trans' hcf (λb hb f=>by omega)))
   obtain ⟨th,hth⟩:=dC (x.s.has key hs);obtain ⟨en,hen⟩:=dC (x.s.bA key hs);rw [<-hth,<-hen] at DE ⊢;obtain ⟨ek,ev,eh⟩:=en;clear hth hen h1 h2 h3 h4 h5 h6 zz c0 c1 c2 c3 hz hd hok hyk hlT hlU jT;simp only at DE ⊢;go_enter Tryz.func22,Tryz.ntmps22
   go_wp2_with (go_at_call 66;(with_reducible refine DE.out.mono ?_);rintro e w1 ⟨rfl,hd1,hc1⟩;have D1:=aa hd1;have C1:=aa (ah.trans (ah.of_below HB.out) hc1);have E1:=aa (HE.out.aA hc1 HN.out);have g0:=E1.out.cell 0;have g1:=E1.out.cell 1;have g2:=E1.out.cell 2;have zE:=E1.out.lt;have gf:=λj=>E1.out.frozen j)
   refine aJ (λWf hWf=>?_);have hR:af Wf w.heap.size 46 #[.int .u64 ek,.int .u64 ev,.int .u64 eh]:=by rw [hWf];exact ((E1.out.set 0 _).set 1 _).set 2 _
   have fI:ah (λb=>b=w.heap.size) w1 Wf:=by rw [hWf];exact (((ah.refl _ _).set1 _ _).set1 _ _).set1 _ _
   obtain ⟨r0,r1,r2⟩:=cells3 hR;refine bodyPost_ret (v := .tuple #[.agg #[.int .u64 ek,.int .u64 ev,.int .u64 eh],.bool th]) (by simp [results,Tryz.results22,go_sem,r0,r1,r2]) rfl ⟨rfl,?_⟩;exact FI.out w1 Wf D1.out C1.out zE fI
 . rw [if_neg (by rw [hz];decide)] at c4;obtain ⟨hd,Ka⟩:=h1.i hz;have hlk:=Cb hd.good key hs;obtain ⟨i1,i2⟩:=jK Ka key hs;rw [i1,i2,Lr Ka key hs];have hid:=hd.id;have hhz:=hd.hz;have zD:=hd.lt;have DE:=aa ((hd.later HB.out).del (by omega) key hs hh);have HN:=aa (show ¬ (p0.mid<=w.heap.size/\w.heap.size<p0.hi) by omega);have FI:=aa (λ(w1 wf:World) (hd':DX w1 p0.mid p0.hi p0.D (x.s.T.eB key hs) (L0+x.s.T.looks key hs)) (hc:ah (λb=>p0.mid<=b/\b<p0.hi) w w1) (hw:w.heap.size<w1.heap.size) (hcf:ah (λb=>b=w.heap.size) w1 wf)=>iw.Nn (m':=m+200) hz h1 h2 h3 h6 (by omega) (hd'.aA hcf (λb a1 a2 e=>by omega)) (hc.trans' hcf (λb hb f=>by omega)));obtain ⟨th,hth⟩:=dC (x.s.T.has key hs);obtain ⟨en,hen⟩:=dC (x.s.T.bA key hs);rw [<-hth,<-hen] at DE ⊢;obtain ⟨ek,ev,eh⟩:=en;generalize p0.D=DD at *
   clear hth hen h1 h2 h3 h4 h5 h6 zz c0 c1 c2 hz hd Ka i1 i2 hlk hid hhz;simp only at DE ⊢;go_enter Tryz.func22,Tryz.ntmps22
   go_wp2_with (go_at_call 67;(with_reducible refine DE.out.mono ?_);rintro e w1 ⟨rfl,hd1,hc1⟩;have D1:=aa hd1;have C1:=aa (ah.trans (ah.of_below HB.out) hc1);have E1:=aa (HE.out.aA hc1 HN.out);have g0:=E1.out.cell 0;have g1:=E1.out.cell 1;have g2:=E1.out.cell 2;have zE:=E1.out.lt;have gf:=λj=>E1.out.frozen j)
   refine aJ (λWf hWf=>?_);have hR:af Wf w.heap.size 46 #[.int .u64 ek,.int .u64 ev,.int .u64 eh]:=by rw [hWf];exact ((E1.out.set 0 _).set 1 _).set 2 _
   have fI:ah (λb=>b=w.heap.size) w1 Wf:=by rw [hWf];exact (((ah.refl _ _).set1 _ _).set1 _ _).set1 _ _
   obtain ⟨r0,r1,r2⟩:=cells3 hR;refine bodyPost_ret (v := .tuple #[.agg #[.int .u64 ek,.int .u64 ev,.int .u64 eh],.bool th]) (by simp [results,Tryz.results22,go_sem,r0,r1,r2]) rfl ⟨rfl,?_⟩;exact FI.out w1 Wf D1.out C1.out zE fI
end
section
variable {w w':World} {R:Nat} {x:bH} {m:Int} {Z:Nat->Prop}
theorem iw.Jj (h:iw w R x m Z) (kind:Int) (hd5:x.d<=5) (hn:x.jV kind≠0):Calls Tryz.prog 28 #[.pointer (some ⟨R,0,none⟩),.int .i64 kind] w λe w'=>e = .returned (.int .i64 ((x.jV kind:Nat):Int))/\Below w.heap.size w w':=by
 obtain ⟨Rb,X,gt,aH,p0,pt,L0,Lc,h1,h2,h3,h4,h5,h6⟩:=h;obtain ⟨c0,c1,c2,c3,c4,z⟩:=h1.cells;unfold bH.jV at hn ⊢;rcases Bool.eq_false_or_eq_true x.bz with hz|hz
 . rw [if_pos hz] at c4;rw [if_pos hz];clear h1 h2 h3 h4 h5 h6 hn c0 c1 c2 c3 hz;go_enter Tryz.func28,Tryz.ntmps28
   go_wp2;go_ret;exact ⟨rfl,by go_grown⟩
 . have hz':¬x.bz=true:=by rw [hz];decide
   rw [if_neg hz'] at c4 hn;rw [if_neg hz'];obtain ⟨hd,-⟩:=h1.i hz;obtain ⟨P,cap,hc0⟩:=hd.head;have zD:=hd.lt;have RG:=aa (rA kind (x.s.T.n:Int) w);generalize x.s.T.n=n at *
   generalize x.d=d at *
   generalize p0.D=DD at *
   by_cases hb:fK kind (n:Int)=0
   . rw [if_neg (λe=>e hb)] at hn ⊢;by_cases hk3:kind=3/\d=5
     . rw [if_pos hk3];obtain ⟨rfl,rfl⟩:=hk3;rw [jd hb,show oW 3=2 from rfl] at RG;generalize mU 3 (n:Int)=ef at *
       clear h1 h2 h3 h4 h5 h6 hd hz hz' hn hb c0 c2 hd5;go_enter Tryz.func28,Tryz.ntmps28
       go_wp2_with (go_at_call 77;(with_reducible refine RG.out.mono ?_);rintro e w1 ⟨rfl,hb1⟩;have B1:=aa hb1;have d1:=(hb1.cell (p:=⟨R,1,none⟩) z).trans c1;have zd:=bM z hb1.size)
       go_ret;exact ⟨rfl,B1.out⟩
     . rw [if_neg hk3] at hn;exact absurd rfl hn
   . rw [if_pos hb];rw [gu rfl hb] at RG;have hbI:¬ ((fK kind (n:Int):Nat):Int)=0:=by omega
     have hbB:(((fK kind (n:Int):Nat):Int) == 0)=false:=by simpa using hbI
     generalize fK kind (n:Int)=bf at *
     clear h1 h2 h3 h4 h5 h6 hd hz hz' hn hb c0 c1 c2 hd5;go_enter Tryz.func28,Tryz.ntmps28
     go_wp2_with (go_at_call 77;(with_reducible refine RG.out.mono ?_);rintro e w1 ⟨rfl,hb1⟩;have B1:=aa hb1)
     go_ret;exact ⟨rfl,B1.out⟩
theorem iw.began {W Wf:World} {Rb X gt aH Qq X' SE Cy k d gn:Nat} {p0:PB} {pt TP:Nat->PB} {L0:Int} {Lc:Nat->Int} {kind:Int} (hz:x.bz=false) (h1:RN w R Rb X gt aH p0 pt x L0 Lc) (h2:∀b,RX Rb X gt p0 pt x b->Z b/\b≠R) (h3:Z R) (h4:0<=L0/\L0<=m) (h6:∀b,Z b->b<w.heap.size)
 (hk:k=1\/(k=2/\d<=15)) (hr:aN (gn:Int)=true) (hM:DM W Qq X' SE Cy p0 TP (DuS.lg k d gn x.s.T) false L0 (λ_=>0)) (g1:w.heap.size<=Qq) (g2:w.heap.size<=X') (g3:w.heap.size<=SE) (g4:∀i,i<k->w.heap.size<=(TP i).mid) (hb:Below w.heap.size w W)
 (hWf:Wf=(W.setCell ⟨R,4,none⟩ (.pointer (some ⟨Qq,0,none⟩))).setCell ⟨R,2,none⟩ (.int .i64 kind)) :
 iw Wf R { x with Ey:=kind,bz:=true,s:=DuS.lg k d gn x.s.T} m (λb=>Z b\/(w.heap.size<=b/\b<Wf.heap.size))/\ah (λb=>b=R) w Wf:=by
 have zR:=h1.b.lt;have hT:=(h1.i hz).1.good;have hcf:ah (λb=>b=R) W Wf:=by rw [hWf];exact ((ah.refl _ _).set1 _ _).set1 _ _
 have hX:∀b,kT Qq X' p0 TP k b\/b=SE->(Z b\/w.heap.size<=b)/\b<W.heap.size/\b≠R:=λb e=>by
  have hlt:b<W.heap.size:=by
   rcases e with e|e
   . exact hM.lt b e
   . rw [e];exact hM.r.v.lt
  rcases e with (e|e | ⟨e1,e2⟩ | ⟨i,hi,e1,e2⟩)|e
  . exact ⟨.inr (by omega),hlt,by omega⟩
  . exact ⟨.inr (by omega),hlt,by omega⟩
  . have:=h2 b (.inl ⟨hz,e1,e2⟩);exact ⟨.inl this.1,hlt,this.2⟩
  . have:=g4 i hi;exact ⟨.inr (by omega),hlt,by omega⟩
  . exact ⟨.inr (by omega),hlt,by omega⟩
 have hs:=hcf.size;refine ⟨⟨Qq,X',SE,Cy,p0,TP,L0,λ_=>0,⟨?_,λe=>(by cases e),λ_=>⟨hM.aA hcf (λb e f=>(hX b (.inl e)).2.2 f) (λf=>(hX SE (.inr rfl)).2.2 f),dW.lg hk hr hT⟩⟩,λb e=>?_,.inl h3,h4,λ_ i hi=>⟨Int.le_refl 0,Int.le_trans h4.1 h4.2⟩,λb e=>?_⟩,(ah.of_below hb).trans hcf⟩
 . rw [hWf];exact ((h1.b.below hb zR).set 4 _).set 2 _
 . rcases e with ⟨e,-⟩ | ⟨-,e⟩
   . cases e
   . obtain ⟨a1,a2,a3⟩:=hX b e;refine ⟨?_,a3⟩;rcases a1 with a1|a1
     . exact .inl a1
     . exact .inr ⟨a1,by omega⟩
 . rcases e with e|e
   . have:=h6 b e;have:=hb.size;omega
   . exact e.2
theorem iw.qy (h:iw w R x m Z) (hz:x.bz=false) (kind:Int) (hd5:x.d<=5) (hbad:fK kind (x.s.T.n:Int)=0) (hd:kind=3->x.d<5):Calls Tryz.prog 28 #[.pointer (some ⟨R,0,none⟩),.int .i64 kind] w λe w' =>
 e = .returned (.int .i64 0)/\iw w' R (x.Gy kind) m (λb=>Z b\/(w.heap.size<=b/\b<w'.heap.size))/\ah (λb=>b=R) w w':=by
 obtain ⟨Rb,X,gt,aH,p0,pt,L0,Lc,h1,h2,h3,h4,h5,h6⟩:=h;obtain ⟨c0,c1,c2,c3,c4,z⟩:=h1.cells;have hz':¬x.bz=true:=by rw [hz];decide
 rw [if_neg hz'] at c4;obtain ⟨hdx,-⟩:=h1.i hz;obtain ⟨P,cap,hc0⟩:=hdx.head;have zD:=hdx.lt;obtain ⟨b1,b2,b3⟩:=Cs hbad;have RG:=aa (rA kind (x.s.T.n:Int) w);rw [jd hbad] at RG;rw [Fx] at RG b3;unfold bH.Gy;have HNB:=aa h1.b;have HO:=aa hdx;generalize Mi kind x.s.T.n=gn at *
 by_cases k3:kind=3
 . have DN:=aa (λ(W:World) (hb:Below w.heap.size w W)=>Mm (k:=2) (d:=x.d) (gn:=gn) (x.d:Int) (.inr ⟨rfl,rfl,by omega⟩) b3 (HO.out.later hb));have q5:¬ ((x.d:Int)=5):=by have:=hd k3;omega
   have q5B:((x.d:Int) == 5)=false:=by simpa using q5
   have BG:=aa (λ(W:World) (Qq X' SE Cy:Nat) (TP:Nat->PB) (hM:DM W Qq X' SE Cy p0 TP (DuS.lg 2 x.d gn x.s.T) false L0 (λ_=>0)) (g1:w.heap.size<=Qq) (g2:w.heap.size<=X') (g3:w.heap.size<=SE) (g4:∀i,i<2->w.heap.size<=(TP i).mid) (hb:Below w.heap.size w W) (Wf:World) (hWf:Wf=(W.setCell ⟨R,4,none⟩ (.pointer (some ⟨Qq,0,none⟩))).setCell ⟨R,2,none⟩ (.int .i64 kind))=>iw.began (kind:=kind) hz h1 h2 h3 h4 h6 (.inr ⟨rfl,by omega⟩) b3 hM g1 g2 g3 g4 hb hWf);simp only [if_pos k3];subst k3;have hm:oW 3=2:=rfl;rw [hm] at RG;generalize x.s.T.n=n at *
   generalize x.d=d at *
   clear h1 h2 h3 h4 h5 h6 hdx hbad hd c0 c2 b1 b2 b3 hm;go_enter Tryz.func28,Tryz.ntmps28
   go_wp2_with (first
    | (go_at_call 77;(with_reducible refine RG.out.mono ?_);rintro e w1 ⟨rfl,hb1⟩;have B1:=aa hb1;have d1:=(hb1.cell (p:=⟨R,1,none⟩) z).trans c1;have d3:=(hb1.cell (p:=⟨R,3,none⟩) z).trans c3;have zd:=bM z hb1.size)
    | (go_at_call 78;(with_reducible refine (DN.out _ B1.out).mono ?_);rintro e w2 ⟨Qq,X',SE,Cy,TP,rfl,hM,g1,g2,g3,g4,hb2⟩;have M2:=aa hM;have G4:=aa g4;have hz1:=B1.out.size;have B2:=aa (B1.out.trans (hb2.mono hz1));have n2:=HNB.out.below B2.out HNB.out.lt;have m4:=n2.cell 4;have m2:=n2.cell 2;have zn:=n2.lt;have nf:=λj=>n2.frozen j;clear hM g4 hb2 n2))
   refine aJ (λWf hWf=>?_);go_ret;exact ⟨rfl,BG.out _ _ _ _ _ _ M2.out (by omega) (by omega) (by omega) (λi hi=>by have:=G4.out i hi;omega) B2.out Wf hWf⟩
 . have DN:=aa (λ(W:World) (hb:Below w.heap.size w W)=>Mm (k:=1) (d:=0) (gn:=gn) (-1) (.inl ⟨rfl,by decide,rfl⟩) b3 (HO.out.later hb));have BG:=aa (λ(W:World) (Qq X' SE Cy:Nat) (TP:Nat->PB) (hM:DM W Qq X' SE Cy p0 TP (DuS.lg 1 0 gn x.s.T) false L0 (λ_=>0)) (g1:w.heap.size<=Qq) (g2:w.heap.size<=X') (g3:w.heap.size<=SE) (g4:∀i,i<1->w.heap.size<=(TP i).mid) (hb:Below w.heap.size w W) (Wf:World) (hWf:Wf=(W.setCell ⟨R,4,none⟩ (.pointer (some ⟨Qq,0,none⟩))).setCell ⟨R,2,none⟩ (.int .i64 kind))=>iw.began (kind:=kind) hz h1 h2 h3 h4 h6 (.inl rfl) b3 hM g1 g2 g3 g4 hb hWf);simp only [if_neg k3];have hm:oW kind=1:=by unfold oW;rw [if_neg k3]
   rw [hm] at RG;generalize x.s.T.n=n at *
   clear h1 h2 h3 h4 h5 h6 hdx hbad hd c0 c2 b1 b2 b3 hm;go_enter Tryz.func28,Tryz.ntmps28
   go_wp2_with (first
    | (go_at_call 77;(with_reducible refine RG.out.mono ?_);rintro e w1 ⟨rfl,hb1⟩;have B1:=aa hb1;have d1:=(hb1.cell (p:=⟨R,1,none⟩) z).trans c1;have d3:=(hb1.cell (p:=⟨R,3,none⟩) z).trans c3;have zd:=bM z hb1.size)
    | (go_at_call 78;(with_reducible refine (DN.out _ B1.out).mono ?_);rintro e w2 ⟨Qq,X',SE,Cy,TP,rfl,hM,g1,g2,g3,g4,hb2⟩;have M2:=aa hM;have G4:=aa g4;have hz1:=B1.out.size;have B2:=aa (B1.out.trans (hb2.mono hz1));have n2:=HNB.out.below B2.out HNB.out.lt;have m4:=n2.cell 4;have m2:=n2.cell 2;have zn:=n2.lt;have nf:=λj=>n2.frozen j;clear hM g4 hb2 n2))
   refine aJ (λWf hWf=>?_);go_ret;exact ⟨rfl,BG.out _ _ _ _ _ _ M2.out (by omega) (by omega) (by omega) (λi hi=>by have:=G4.out i hi;omega) B2.out Wf hWf⟩
end
section
variable {w w':World} {R:Nat} {x:bH} {m:Int} {Z:Nat->Prop}
theorem iw.Mh (h:iw w R x m Z) (hn:(x.bz && decide (x.s.left=0))=false):Calls Tryz.prog 29 #[.pointer (some ⟨R,0,none⟩)] w λe w'=>e = .returned (.tuple #[.pointer none,.int .i64 5])/\Below w.heap.size w w':=by
 obtain ⟨Rb,X,gt,aH,p0,pt,L0,Lc,h1,h2,h3,h4,h5,h6⟩:=h;obtain ⟨c0,c1,c2,c3,c4,z⟩:=h1.cells;rcases Bool.eq_false_or_eq_true x.bz with hz|hz
 . rw [if_pos hz] at c4;rw [hz,Bool.true_and,decide_eq_false_iff_not] at hn;have LE:=aa ((h1.u hz).1.left (h1.u hz).2);have hl:(0:Int)<((x.s.left:Nat):Int):=by omega
   generalize ((x.s.left:Nat):Int)=le at *
   clear h1 h2 h3 h4 h5 h6 c0 c1 c2 c3 hz hn;go_enter Tryz.func29,Tryz.ntmps29
   go_wp2_with (go_at_call 79;(with_reducible refine LE.out.mono ?_);rintro e w1 ⟨rfl,hb1⟩;have B1:=aa hb1)
   go_ret2;exact ⟨rfl,B1.out⟩
 . rw [if_neg (by rw [hz];decide)] at c4;clear h1 h2 h3 h4 h5 h6 c0 c1 c2 c3 hz hn;go_enter Tryz.func29,Tryz.ntmps29
   go_wp2;go_ret2;exact ⟨rfl,by go_grown⟩
theorem iw.ended {W Wf:World} {Rb X gt aH:Nat} {p0:PB} {pt:Nat->PB} {L0:Int} {Lc:Nat->Int} {R2 i p d:Nat} {Y:Nat->Prop} {Z2:Nat->Prop} (hM:DM W Rb X gt aH p0 pt x.s false L0 Lc) (hi:i<x.s.k) (h5:0<=Lc i/\Lc i<=m) (hc:ah Y W Wf) (hY:∀b,(pt i).mid<=b->b<(pt i).hi->¬Y b/\Z2 b/\b≠R2) (hR:Z2 R2) (hZ:∀b,Z2 b->b<Wf.heap.size)
 (hb:af Wf R2 78 #[.int .i64 (p:Int),.int .i64 (d:Int),.int .i64 0,.pointer (some ⟨(pt i).D,0,none⟩),.pointer none]):iw Wf R2 (bH.idle p d (x.s.U i)) m Z2:=by
 refine ⟨Rb,X,gt,aH,pt i,pt,Lc i,Lc,⟨hb,λ_=>⟨(hM.r.t i hi).aA hc (λb e1 e2=>(hY b e1 e2).1),(show 0<1*64 by decide)⟩,λe=>(by cases e)⟩,λb e=>?_,hR,h5,λe=>(by cases e),hZ⟩;rcases e with ⟨-,e1,e2⟩ | ⟨e,-⟩
 . exact (hY b e1 e2).2
 . cases e
theorem iw.p8 (h:iw w R x m Z) (hz:x.bz=true) (hn:x.s.left=0) (hk:x.s.k=1):Calls Tryz.prog 29 #[.pointer (some ⟨R,0,none⟩)] w λe w' =>
 e = .returned (.tuple #[.pointer none,.int .i64 0])/\iw w' R (bH.idle x.p x.d (x.s.U 0)) m Z/\ah (λb=>b=R) w w':=by
 obtain ⟨Rb,X,gt,aH,p0,pt,L0,Lc,h1,h2,h3,h4,h5,h6⟩:=h;obtain ⟨c0,c1,c2,c3,c4,z⟩:=h1.cells;rw [if_pos hz] at c4;obtain ⟨hM,hok⟩:=h1.u hz;have LE:=aa (hM.left hok);rw [hn] at LE;simp only [show ((0:Nat):Int)=0 from rfl] at LE;obtain ⟨v0,v1,-,-,zX,-⟩:=eX hM.r.v;have r0:=hM.hd.cell 0;have zRb:=hM.hd.lt;have l0:=hM.r.v.l 0 (by omega);have zgt:=hM.r.v.lt;have HM:=aa hM;have HNB:=aa h1.b;have HZ:=aa h2;have HR:=aa h3;have H6:=aa h6;have H5:=aa (h5 hz);rw [hk] at v1;have HZZ:=aa hz;have HK:=aa hk;obtain ⟨D1,hD1⟩:=dC ((pt 0).D);rw [<-hD1] at l0;replace hD1:=aa hD1;clear h1 h2 h3 h4 h5 h6 hM hok hz hn hk c0 c1 c3;go_enter Tryz.func29,Tryz.ntmps29
 go_wp2_with (go_at_call 79;(with_reducible refine LE.out.mono ?_);rintro e w1 ⟨rfl,hb1⟩;have B1:=aa hb1;have m1:=HM.out.later hb1;have q0:=m1.hd.cell 0;have q1:=eX m1.r.v;have QE:=q1.1;have KI:=q1.2.1;rw [HK.out] at KI;have qX:=q1.2.2.2.2.1;have qR:=m1.hd.lt;have ql:=m1.r.v.l 0 (by rw [HK.out];decide);rw [<-hD1.out] at ql;have qg:=m1.r.v.lt;have n1:=HNB.out.below hb1 HNB.out.lt;have n14:=n1.cell 4;rw [if_pos HZZ.out] at n14;have n13:=n1.cell 3;have n12:=n1.cell 2;have zn1:=n1.lt;have nf:=λj=>n1.frozen j;have N1:=aa n1;have M1:=aa m1;clear q1 m1 n1 hb1)
 refine aJ (λWf hWf=>?_);go_ret2;have hcf:ah (λb=>b=R) w1 Wf:=by rw [hWf];exact (((ah.refl _ _).set1 _ _).set1 _ _).set1 _ _
 have hs:=hcf.size;have hs1:=B1.out.size;refine ⟨rfl,iw.ended M1.out (by rw [HK.out];decide) (H5.out 0 (by rw [HK.out];decide)) hcf (λb e1 e2=>?_) HR.out (λb e=>by have:=H6.out b e;omega) ?_,(ah.of_below B1.out).trans hcf⟩
 . have:=HZ.out b (.inr ⟨HZZ.out,.inl (.inr (.inr (.inr ⟨0,by rw [HK.out];decide,e1,e2⟩)))⟩);exact ⟨this.2,this.1,this.2⟩
 . rw [hWf,<-hD1.out];exact ((N1.out.set 3 _).set 4 _).set 2 _
theorem iw.Fw (h:iw w R x m Z) (hz:x.bz=true) (hn:x.s.left=0) (hk:x.s.k=2) (hp:x.p<32) (hd:x.d<5):Calls Tryz.prog 29 #[.pointer (some ⟨R,0,none⟩)] w λe w' => ∃R2 Z2,
 e = .returned (.tuple #[.pointer (some ⟨R2,0,none⟩),.int .i64 0])/\iw w' R (bH.idle (2*x.p) (x.d+1) (x.s.U 0)) m Z/\iw w' R2 (bH.idle (2*x.p+1) (x.d+1) (x.s.U 1)) m Z2/\ah (λb=>b=R) w w':=by
 obtain ⟨Rb,X,gt,aH,p0,pt,L0,Lc,h1,h2,h3,h4,h5,h6⟩:=h;obtain ⟨c0,c1,c2,c3,c4,z⟩:=h1.cells;rw [if_pos hz] at c4;obtain ⟨hM,hok⟩:=h1.u hz;have LE:=aa (hM.left hok);rw [hn] at LE;simp only [show ((0:Nat):Int)=0 from rfl] at LE;obtain ⟨v0,v1,-,-,zX,-⟩:=eX hM.r.v;have r0:=hM.hd.cell 0;have zRb:=hM.hd.lt;have l0:=hM.r.v.l 0 (by omega);have zgt:=hM.r.v.lt;have HM:=aa hM;have HNB:=aa h1.b;have HZ:=aa h2;have HR:=aa h3;have H6:=aa h6;have H5:=aa (h5 hz);have l1:=hM.r.v.l 1 (by omega);rw [hk] at v1;have HZZ:=aa hz;have HK:=aa hk;obtain ⟨D1,hD1⟩:=dC ((pt 0).D);obtain ⟨D2,hD2⟩:=dC ((pt 1).D);obtain ⟨P2,hP2⟩:∃P2:Int,P2=((2*x.p:Nat):Int):=⟨_,rfl⟩
 obtain ⟨P3,hP3⟩:∃P3:Int,P3=((2*x.p+1:Nat):Int):=⟨_,rfl⟩
 obtain ⟨DI,hDI⟩:∃DI:Int,DI=((x.d+1:Nat):Int):=⟨_,rfl⟩
 have hw1:IntKind.i64.wrap ((x.p:Int)*2)=P2:=by rw [IntKind.wrap_i64];omega
 have hw2:IntKind.i64.wrap ((x.d:Int)+1)=DI:=by rw [IntKind.wrap_i64];omega
 have hw3:IntKind.i64.wrap (P2+1)=P3:=by rw [IntKind.wrap_i64];omega
 replace hP2:=aa hP2;replace hP3:=aa hP3;replace hDI:=aa hDI;rw [<-hD1] at l0;rw [<-hD2] at l1;replace hD1:=aa hD1;replace hD2:=aa hD2;clear h1 h2 h3 h4 h5 h6 hM hok hz hn hk c3;go_enter Tryz.func29,Tryz.ntmps29
 go_upto_region 9 with (go_at_call 79;(with_reducible refine LE.out.mono ?_);rintro e w1 ⟨rfl,hb1⟩;have B1:=aa hb1;have m1:=HM.out.later hb1;have q0:=m1.hd.cell 0;have q1:=eX m1.r.v;have QE:=q1.1;have KI:=q1.2.1;rw [HK.out] at KI;have qX:=q1.2.2.2.2.1;have qR:=m1.hd.lt;have ql:=m1.r.v.l 0 (by rw [HK.out];decide);rw [<-hD1.out] at ql;have qm:=m1.r.v.l 1 (by rw [HK.out];decide);rw [<-hD2.out] at qm;have qg:=m1.r.v.lt;have n1:=HNB.out.below hb1 HNB.out.lt;have n14:=n1.cell 4;rw [if_pos HZZ.out] at n14;have n13:=n1.cell 3;have n12:=n1.cell 2;have n11:=n1.cell 1;have n10:=n1.cell 0;have zn1:=n1.lt;have nf:=λj=>n1.frozen j;have N1:=aa n1;have M1:=aa m1;clear q1 m1 n1 hb1)
 refine bG (λW hW=>?_)
 have NW:=aa (show af W R 78 #[.int .i64 P2,.int .i64 DI,.int .i64 0,.pointer (some ⟨D1,0,none⟩),.pointer none] by
  rw [hW];exact ((((N1.out.set 3 _).set 4 _).set 2 _).set 0 _).set 1 _)
 have hcW:ah (λb=>b=R) w1 W:=by rw [hW];exact ((((((ah.refl _ _).set1 _ _).set1 _ _).set1 _ _).set1 _ _).set1 _ _)
 have CW:=aa hcW;have hgR:¬gt=R:=λe=>(HZ.out gt (.inr ⟨HZZ.out,.inr rfl⟩)).2 e;have k0:=NW.out.cell 0;have k1:=NW.out.cell 1;have zk:=NW.out.lt;have u1:=(hcW.cell (p:=⟨gt,1,none⟩) qg hgR).trans qm;have zu:=bM qg hcW.size;have hs1:=B1.out.size;have hs2:=hcW.size;clear hW hcW q0 QE KI qX qR ql qm qg n14 n13 n12 n11 n10 nf N1;refine ag (λ_=>False) #[⟨0,0,2^57,1,0⟩,⟨1,1,2^58,2^57,0⟩,⟨2,3,2^59,2^58,0⟩,⟨4,7,2^60,2^59,1⟩,⟨8,15,2^61,2^60,0⟩,⟨0,0,2^62,1,0⟩,⟨32,32,2^63,2^62,0⟩,⟨64,96,2^64,2^63,0⟩,⟨128,224,2^65,2^64,1⟩,⟨0,0,2^66,16,0⟩,⟨512,512,2^67,2^66,0⟩,⟨1024,1536,2^68,2^67,1⟩,⟨2320,4095,2^69,(2^61+2^65+2^68),0⟩,⟨4096,8191,2^70,2^69,3⟩,⟨16383,16383,4,2^70,0⟩,⟨32767,32767,8,0,0⟩] 2312 [(0,0),(1,0),(2,0),(3,1),(4,0),(5,0),(6,0),(7,0),(8,1),(9,0),(10,0),(11,1),(12,0),(13,3),(14,0),(15,0)] (by kernel_rfl) (by kernel_rfl) (by kernel_rfl) (by kernel_rfl) (by kernel_rfl) (by kernel_rfl) (λc a d v w h=>by cases d <;> exact h) ?_;refine aj ?_;refine aj ?_;refine aj ?_;refine bW Tryz.underlying3 ?_
 try refine aC ?_;refine aj ?_;refine aj ?_;refine aj ?_;refine aj ?_
 refine bW Tryz.underlying3 ?_
 try refine aC ?_;refine aj ?_;refine aj ?_
 refine bW Tryz.underlying75 ?_
 try refine aC ?_;refine aj ?_
 refine fA λK hK=>?_;go_wp2_with (fail);refine hK.out _ _ ?_;clear hK K
 try refine aC ?_;refine aj ?_;refine aj ?_
 refine aD ?_;go_wp2;refine aJ (λWf hWf=>?_);go_ret2;have hbf:Below W.heap.size W Wf:=by rw [hWf];exact (aM _ _).drew.alloc (aL _) _
 have hN2:af Wf W.heap.size 78 #[.int .i64 P3,.int .i64 DI,.int .i64 0,.pointer (some ⟨D2,0,none⟩),.pointer none]:=by rw [hWf];exact af.new _ _ _
 have hcf:ah (λb=>b=R) w1 Wf:=CW.out.trans (ah.of_below hbf);have hzf:=hN2.lt;have hXX:∀i b,i<2->(pt i).mid<=b->b<(pt i).hi->Z b/\b≠R:=λi b hi e1 e2=>HZ.out b (.inr ⟨HZZ.out,.inl (.inr (.inr (.inr ⟨i,by rw [HK.out];exact hi,e1,e2⟩)))⟩);refine ⟨W.heap.size,λb=>((pt 1).mid<=b/\b<(pt 1).hi)\/b=W.heap.size,rfl,iw.ended M1.out (by rw [HK.out];decide) (H5.out 0 (by rw [HK.out];decide)) hcf (λb e1 e2=>?_) HR.out (λb e=>by have:=H6.out b e;omega) ?_,iw.ended M1.out (by rw [HK.out];decide) (H5.out 1 (by rw [HK.out];decide)) hcf (λb e1 e2=>?_) (.inr rfl) (λb e=>?_) ?_,(ah.of_below B1.out).trans hcf⟩
 . have:=hXX 0 b (by decide) e1 e2;exact ⟨this.2,this.1,this.2⟩
 . rw [<-hP2.out,<-hDI.out,<-hD1.out];exact NW.out.below hbf zk
 . have:=hXX 1 b (by decide) e1 e2;have h6:=H6.out b this.1;exact ⟨this.2,.inl ⟨e1,e2⟩,by omega⟩
 . rcases e with ⟨e1,e2⟩|e
   . have:=H6.out b (hXX 1 b (by decide) e1 e2).1;omega
   . omega
 . rw [<-hP3.out,<-hDI.out,<-hD2.out];exact hN2
theorem GK (d:Nat) (hd:d<=5) (w:World):Calls Tryz.prog 19 #[.int .i64 0,.int .i64 (d:Int)] w λe w' => ∃R,
 e = .returned (.tuple #[.pointer (some ⟨R,0,none⟩),.int .i64 0])/\iw w' R (bH.idle 0 d (ae.new 1)) 0 (λb=>w.heap.size<=b/\b<w'.heap.size)/\Below w.heap.size w w':=by
 have EN:=aa (Ow 0 d (by omega) (Nat.pow_pos (by decide)) w);have DN:=aa (λ(W:World)=>Mj 1 (by decide) W);have h5:¬ (d:Int) > 5:=by omega
 have d5:decide ((d:Int) > 5)=false:=decide_eq_false h5;simp only [show ((0:Nat):Int)=0 from rfl,show ((1:Nat):Int)=1 from rfl] at EN DN;generalize (((0:Nat)*2 ^ (64-d):Nat):Int)=a1 at *
 generalize ((((0:Nat)+1)*2 ^ (64-d)-1:Nat):Int)=a2 at *
 go_enter Tryz.func19,Tryz.ntmps19
 go_wp2_with (first|(go_at_call 59;(with_reducible refine EN.out.mono ?_);rintro e w1 ⟨rfl,hb1⟩;have B1:=aa hb1)|(go_at_call 60;(with_reducible refine (DN.out _).mono ?_);rintro e w2 ⟨D,P,cap,GB,rfl,hdt,hb2⟩;have T2:=aa hdt;have B2:=aa hb2;clear hdt))
 refine aJ (λWf hWf=>?_);go_ret2;have hbf:Below w2.heap.size w2 Wf:=by rw [hWf];exact (aM _ _).alloc (aL _) _
 have hN:af Wf w2.heap.size 78 #[.int .i64 0,.int .i64 (d:Int),.int .i64 0,.pointer (some ⟨D,0,none⟩),.pointer none]:=by rw [hWf];exact af.new _ _ _
 have hz1:=B1.out.size;have hz2:=B2.out.size;have hzf:=hN.lt;refine ⟨w2.heap.size,rfl,⟨0,0,0,0,⟨0,w1.heap.size,w2.heap.size,0,0,D⟩,λ_=>⟨0,0,0,0,0,0⟩,0,λ_=>0,⟨hN,λ_=>⟨(show DX w2 w1.heap.size w2.heap.size D (ae.new 1) 0 from ⟨P,cap,GB,T2.out⟩).later hbf,(show 0<1*64 by decide)⟩,λe=>(by cases e)⟩,λb e=>?_,⟨by omega,hzf⟩,⟨by decide,by decide⟩,λe=>(by cases e),λb e=>e.2⟩,(B1.out.trans (B2.out.mono hz1)).trans (hbf.mono (by omega))⟩;rcases e with ⟨-,e1,e2⟩ | ⟨e,-⟩
 . exact ⟨⟨by have:w1.heap.size<=b:=e1;omega,by have:b<w2.heap.size:=e2;omega⟩,by have:b<w2.heap.size:=e2;omega⟩
 . cases e
theorem GL (d:Int) (hd:¬afd d) (w:World):Calls Tryz.prog 19 #[.int .i64 0,.int .i64 d] w λe w'=>e = .returned (.tuple #[.pointer none,.int .i64 1])/\Below w.heap.size w w':=by
 by_cases h5:d > 5
 . have d5:decide (d > 5)=true:=decide_eq_true h5;clear hd;go_enter Tryz.func19,Tryz.ntmps19
   go_wp2;go_ret2;exact ⟨rfl,by go_grown⟩
 . have d5:decide (d > 5)=false:=decide_eq_false h5;have EN:=aa (Mg 0 d (.inl (Int.not_le.1 λe=>hd ⟨e,by omega⟩)) w);clear hd;go_enter Tryz.func19,Tryz.ntmps19
   go_wp2_with (go_at_call 59;(with_reducible refine EN.out.mono ?_);rintro e w1 ⟨rfl,rfl⟩)
   go_ret2;exact ⟨rfl,by go_grown⟩
end
end Go.Proofs.YtolhmibejhldkaaGreatDoor
