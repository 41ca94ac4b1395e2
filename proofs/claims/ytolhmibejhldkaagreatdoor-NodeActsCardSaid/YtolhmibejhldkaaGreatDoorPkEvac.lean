/- Joined texts; conditions within. -/
import Derived.Defers
import Derived.Recover
import Derived.WalkLawsBesides
import Derived.Test.YtolhmibejhldkaaGreatDoorPkBuild
set_option linter.unusedVariables false
set_option linter.unusedSimpArgs false
set_option maxRecDepth 100000
set_option maxHeartbeats 8000000
namespace Go.Proofs.YtolhmibejhldkaaGreatDoor
open Go.RowKit Go.Proofs
section
variable {P:Program} {w:World}
end
theorem FB (d:Int) (w:World):Calls Tryz.prog 90 #[.int .i64 d] w λe w'=>e = .returned (.bool (decide (0<=d/\d<=16)))/\w=w':=by
 by_cases h0:0<=d
 . by_cases h1:d<=16
   . rw [decide_eq_true (show 0<=d/\d<=16 from ⟨h0,h1⟩)];have e1:decide (d>=0)=true:=by simpa using h0
     have e2:decide (d<=16)=true:=by simpa using h1
     go_enter Tryz.func90,Tryz.ntmps90
     go_wp2;go_ret;exact ⟨rfl,rfl⟩
   . rw [decide_eq_false (show ¬ (0<=d/\d<=16) from λh=>h1 h.2)];have e1:decide (d>=0)=true:=by simpa using h0
     have e2:decide (d<=16)=false:=by simpa using h1
     go_enter Tryz.func90,Tryz.ntmps90
     go_wp2;go_ret;exact ⟨rfl,rfl⟩
 . rw [decide_eq_false (show ¬ (0<=d/\d<=16) from λh=>h0 h.1)];have e1:decide (d>=0)=false:=by simp;omega
   go_enter Tryz.func90,Tryz.ntmps90
   go_wp2;go_ret;exact ⟨rfl,rfl⟩
def rR (h d:Nat):Nat:=h / 2 ^ (64-d)
theorem aa5 {h d:Nat} (hh:h<18446744073709551616) (hd:d<=64):rR h d<2 ^ d:=by
 unfold rR;rw [Nat.div_lt_iff_lt_mul (Nat.two_pow_pos _),<-Nat.pow_add,show d+(64-d)=64 by omega];exact hh
theorem Ef {d:Nat} (hd:d<=16):2 ^ d<=65536:=Nat.pow_le_pow_right (by decide) hd
theorem adl (h d:Nat) (hh:h<18446744073709551616) (hd:d<=16) (w:World) :
 Calls Tryz.prog 38 #[.int .u64 (h:Int),.int .i64 (d:Int)] w λe w'=>e = .returned (.tuple #[.int .i64 ((rR h d:Nat):Int),.nilIface])/\w=w':=by
 have hdp:=FB (d:Int);rw [decide_eq_true (show (0:Int)<=(d:Int)/\(d:Int)<=16 by omega)] at hdp;have hsub:((64:Int)-(d:Int))=((64-d:Nat):Int):=by omega
 have ht:rR h d<65536+1:=by have:=aa5 (d:=d) hh (by omega);have:=Ef hd;omega
 have hq:(h:Int) / 2 ^ (64-d)=((rR h d:Nat):Int):=by unfold rR;simp
 generalize rR h d=t at *
 go_enter Tryz.func38,Tryz.ntmps38
 go_wp2_with (go_at_call 90;refine (hdp _).mono ?_;rintro e w' ⟨rfl,rfl⟩)
 go_ret2;exact ⟨rfl,rfl⟩
def Pre (p d:Int):Prop:=(0<=d/\d<=16)/\0<=p/\p<((2 ^ d.toNat:Nat):Int)
instance (p d:Int):Decidable (Pre p d):=by unfold Pre;infer_instance
theorem Uz (m:Nat) (hm:m<=16):wrap64 ((2:Int) ^ m)=((2 ^ m:Nat):Int):=by
 have:=Ef hm;rw [show ((2:Int) ^ m)=((2 ^ m:Nat):Int) by simp];generalize 2 ^ m=y at *
 exact IntWalk.wrap64_in _ (by omega)
theorem ow (p d:Int) (w:World):Calls Tryz.prog 39 #[.int .i64 p,.int .i64 d] w λe w'=>e = .returned (.bool (decide (Pre p d)))/\w=w':=by
 have hdp:=FB d;by_cases h0:0<=d/\d<=16
 . obtain ⟨m,rfl⟩:∃m:Nat,d=(m:Int):=⟨d.toNat,by omega⟩
   have hm:m<=16:=by omega
   rw [decide_eq_true h0] at hdp;have hs:=Uz m hm;by_cases h1:0<=p
   . have e1:decide (p>=0)=true:=by simpa using h1
     by_cases h2:p<((2 ^ m:Nat):Int)
     . rw [decide_eq_true (show Pre p (m:Int) from ⟨h0,h1,by simpa using h2⟩)];have e2:decide (p<((2 ^ m:Nat):Int))=true:=decide_eq_true h2;generalize 2 ^ m=y at *
       clear h0 h2;go_enter Tryz.func39,Tryz.ntmps39
       go_wp2_with (go_at_call 90;refine (hdp _).mono ?_;rintro e w' ⟨rfl,rfl⟩)
       go_ret;exact ⟨rfl,rfl⟩
     . rw [decide_eq_false (show ¬Pre p (m:Int) from λh=>h2 (by simpa using h.2.2))];have e2:decide (p<((2 ^ m:Nat):Int))=false:=decide_eq_false h2;generalize 2 ^ m=y at *
       clear h0 h2;go_enter Tryz.func39,Tryz.ntmps39
       go_wp2_with (go_at_call 90;refine (hdp _).mono ?_;rintro e w' ⟨rfl,rfl⟩)
       go_ret;exact ⟨rfl,rfl⟩
   . rw [decide_eq_false (show ¬Pre p (m:Int) from λh=>h1 h.2.1)];have e1:decide (p>=0)=false:=by simp;omega
     clear h0 hs;go_enter Tryz.func39,Tryz.ntmps39
     go_wp2_with (go_at_call 90;refine (hdp _).mono ?_;rintro e w' ⟨rfl,rfl⟩)
     go_ret;exact ⟨rfl,rfl⟩
 . rw [decide_eq_false (show ¬Pre p d from λh=>h0 h.1)];rw [decide_eq_false h0] at hdp;clear h0;go_enter Tryz.func39,Tryz.ntmps39
   go_wp2_with (go_at_call 90;refine (hdp _).mono ?_;rintro e w' ⟨rfl,rfl⟩)
   go_ret;exact ⟨rfl,rfl⟩
def Lg (p d:Nat):Nat:=p*2 ^ (64-d)
theorem abA {p d:Nat} (hp:p<2 ^ d) (hd:d<=64):Lg p d<18446744073709551616:=by
 unfold Lg;have h1:p*2 ^ (64-d)<2 ^ d*2 ^ (64-d):=Nat.mul_lt_mul_of_pos_right hp (Nat.two_pow_pos _)
 rwa [<-Nat.pow_add,show d+(64-d)=64 by omega] at h1
theorem adM (p d:Nat) (hd:d<=16) (hp:p<2 ^ d) (w:World) :
 Calls Tryz.prog 36 #[.int .i64 (p:Int),.int .i64 (d:Int)] w λe w'=>e = .returned (.tuple #[.int .u64 ((Lg p d:Nat):Int),.nilIface])/\w=w':=by
 have hpp:=ow (p:Int) (d:Int);rw [decide_eq_true (show Pre (p:Int) (d:Int) from ⟨by omega,by omega,by simp;exact_mod_cast hp⟩)] at hpp;have hsub:((64:Int)-(d:Int))=((64-d:Nat):Int):=by omega
 have hl:=abA hp (by omega);have hpl:p<65536+1:=by have:=Ef hd;omega
 have hq:IntKind.u64.wrap ((p:Int)*2 ^ (64-d))=((Lg p d:Nat):Int):=by
  rw [show ((p:Int)*2 ^ (64-d))=((Lg p d:Nat):Int) by unfold Lg;simp];exact IntWalk.u64_in _ (by omega)
 generalize Lg p d=t at *
 clear hp;go_enter Tryz.func36,Tryz.ntmps36
 go_wp2_with (go_at_call 39;refine (hpp _).mono ?_;rintro e w' ⟨rfl,rfl⟩)
 go_ret2;exact ⟨rfl,rfl⟩
theorem abz (p d:Int) (hd:¬Pre p d) (E:Nat->Addr) (w:World) (he:EC w E [1]) :
 Calls Tryz.prog 36 #[.int .i64 p,.int .i64 d] w λe w'=>e = .returned (.tuple #[.int .u64 0,aO E 1])/\w.drew=w':=by
 have hdp:=ow p d;rw [decide_eq_false hd] at hdp;have hc:w.cell? ⟨0,0,none⟩=some (aO E 1):=he 1 (by decide);clear he hd;go_enter Tryz.func36,Tryz.ntmps36
 go_wp2_with (go_at_call 39;refine (hdp _).mono ?_;rintro e w' ⟨rfl,rfl⟩)
 refine ag (λ_=>False) #[⟨0,0,1024,0,1⟩,⟨0,0,16,0,0⟩,⟨3,3,32,1024,0⟩] 1 [(0,1),(1,0),(2,0)] (by kernel_rfl) (by kernel_rfl) (by kernel_rfl) (by kernel_rfl) (by kernel_rfl) (by kernel_rfl) (λc a d v w h=>by cases d <;> exact h) ?_;refine bW Tryz.underlying27 ?_
 try refine aC ?_;refine aj ?_;refine aj ?_
 refine aD ?_;go_wp2;go_ret2;exact ⟨rfl,rfl⟩
def iA (v:Value):Value := .iface 140 (.agg #[v])
theorem G9 (x:Value) (w:World):(Instr.typeAssert (.iface 140 x) 20 140 true).run Tryz.prog w = .ok (.tuple #[x,.bool true]) w:=by kernel_rfl
theorem qE (w:World):Calls Tryz.prog 180 #[.nilIface] w λe w'=>e = .returned (.tuple #[])/\w=w':=by
 go_enter Tryz.func180,Tryz.ntmps180
 go_wp2
 go_end0
 exact ⟨rfl,rfl⟩
theorem RH (E:Nat->Addr) (k:Nat) (w:World):Calls Tryz.prog 180 #[aO E k] w λe w'=>e = .panicked [{ v:=iA (aO E k),recovered:=false}]/\w=w':=by
 unfold aO iA;go_enter Tryz.func180,Tryz.ntmps180
 go_wp2;exact ⟨rfl,rfl,rfl⟩
theorem Lb (w:World):Calls Tryz.prog 155 #[.bool true] w λe w'=>e = .returned (.tuple #[])/\w=w':=by
 go_enter Tryz.func155,Tryz.ntmps155
 go_wp2
 go_end0
 exact ⟨rfl,rfl⟩
theorem Ms (p:Addr) (w:World) :
 CallsD Tryz.prog 83 #[.pointer (some p)] .returning w λe u' w'=>e = .returned (.tuple #[])/\u' = .returning/\w'=w:=by
 refine callsD_of_wpS Tryz.func83 rfl λc₀ cs hu=>?_;apply wpS_seq
 apply wpS_region
 simp [wpOpsS,go_sem,recoverD,hu,Tryz.ntmps83,Exit.thenS]
 simp only [show (Array.replicate 11 undef) = #[undef,undef,undef,undef,undef,undef,undef,undef,undef,undef,undef] from rfl,List.append_toArray,List.nil_append,List.cons_append,List.setIfInBounds_toArray,List.set_cons_succ,List.set_cons_zero];refine wpS_of_wp ?_;go_wp2;cases c₀
 simp_all [bodyPostS,results,Tryz.results83]
theorem G7 (B:Nat) (t:TypeId) (y x:Value) (w:World) (hc:w.cell? ⟨B,0,none⟩=some x) (hz:w.frozen? ⟨B,0,none⟩=false) (hp:B<w.heap.size) :
 CallsD Tryz.prog 83 #[.pointer (some ⟨B,0,none⟩)] (.panicking [{ v:=iA (.iface t y),recovered:=false}]) w λe u' w' =>
  e = .returned (.tuple #[])/\u' = .panicking [{ v:=iA (.iface t y),recovered:=true}]/\w'=(w.setCell ⟨B,0,none⟩ (.iface t y)).alloc (.cells #[.iface t y] 140):=by
 unfold iA;have ha:=G9;refine callsD_of_wpS Tryz.func83 rfl λc₀ cs hu=>?_;apply wpS_seq
 apply wpS_region
 simp [wpOpsS,go_sem,recoverD,hu,Tryz.ntmps83,Exit.thenS]
 simp only [show (Array.replicate 11 undef) = #[undef,undef,undef,undef,undef,undef,undef,undef,undef,undef,undef] from rfl,List.append_toArray,List.nil_append,List.cons_append,List.setIfInBounds_toArray,List.set_cons_succ,List.set_cons_zero];refine wpS_of_wp ?_;go_wp2;cases c₀
 simp_all [bodyPostS,results,Tryz.results83]
def Enters (g:Nat):Prop := ∀args w,(callFunc g args).run Tryz.prog w = .ok (.enter g args) w
theorem aaw (g:Nat) (lb:Array Value) (Q:World->Prop) (w:World) (eg:Enters g)
 (hF:Calls Tryz.prog g lb (w.alloc (.cells #[.nilIface] 27)) λe w2=>e = .returned (.tuple #[])/\Q w2) (hQ:∀w2,Q w2->af w2 w.heap.size 27 #[.nilIface]) :
 Calls Tryz.prog 31 #[.func (.func g) #[] lb] w λe w'=>e = .returned .nilIface/\∃w2,Q w2/\w2.setCell ⟨w.heap.size,0,none⟩ .nilIface=w':=by
 have eg':∀args w,(callFunc g args).run Tryz.prog w = .ok (.enter g args) w:=eg;have hmf:∀ (fn:Fn) (first cap:Array Value) (w:World),(Instr.makeFunc fn first cap).run Tryz.prog w = .ok (.func fn first cap) w:=λ_ _ _ _=>rfl;have hnf:∀w:World,(binOp .eql 1 (.func (.func g) #[] lb) .nilFunc).run Tryz.prog w = .ok (.bool false) w:=λ_=>by kernel_rfl
 clear eg
 go_enter_defers Tryz.func31,Tryz.ntmps31
 go_wp2_with ((with_reducible refine hF.mono ?_);rintro e w2 ⟨rfl,hq⟩;have hb:=hQ _ hq;have c0:=hb.cell 0;have f0:=hb.frozen 0)
 have hc:=(hb.set 0 .nilIface).cell 0;refine leaves_cons (f:=83) (args := #[.pointer (some ⟨w.heap.size,0,none⟩)]) (by simp) (by simp [go_sem]) ?_;refine (Ms ⟨w.heap.size,0,none⟩ _).mono ?_;rintro e u' w'' ⟨rfl,rfl,rfl⟩
 have hr:=kE (P:=Tryz.prog) (fn:=Tryz.f31) (p:=2) (ty:=27) (tmps := #[.func (.func g) #[] lb,undef,.pointer (some ⟨w.heap.size,0,none⟩),.func (.func g) #[] lb,.bool false,undef,.func (.func 83) #[] #[.pointer (some ⟨w.heap.size,0,none⟩)],.func (.func g) #[] lb,.tuple #[]]) rfl rfl hc Tryz.isAgg27;simp [Leaves,settle]
 exact ⟨_,hr,rfl,w2,hq,rfl⟩
theorem J3 (g:Nat) (lb:Array Value) (t:TypeId) (y:Value) (Q:World->Prop) (w:World) (eg:Enters g)
 (hF:Calls Tryz.prog g lb (w.alloc (.cells #[.nilIface] 27)) λe w2=>e = .panicked [{ v:=iA (.iface t y),recovered:=false}]/\Q w2) (hQ:∀w2,Q w2->af w2 w.heap.size 27 #[.nilIface]) :
 Calls Tryz.prog 31 #[.func (.func g) #[] lb] w λe w'=>e = .returned (.iface t y)/\∃w2,Q w2/\(w2.setCell ⟨w.heap.size,0,none⟩ (.iface t y)).alloc (.cells #[.iface t y] 140)=w':=by
 have eg':∀args w,(callFunc g args).run Tryz.prog w = .ok (.enter g args) w:=eg;have hmf:∀ (fn:Fn) (first cap:Array Value) (w:World),(Instr.makeFunc fn first cap).run Tryz.prog w = .ok (.func fn first cap) w:=λ_ _ _ _=>rfl;have hnf:∀w:World,(binOp .eql 1 (.func (.func g) #[] lb) .nilFunc).run Tryz.prog w = .ok (.bool false) w:=λ_=>by kernel_rfl
 clear eg
 go_enter_defers Tryz.func31,Tryz.ntmps31
 go_wp2_with ((with_reducible refine hF.mono ?_);rintro e w2 ⟨rfl,hq⟩;have hb:=hQ _ hq;have c0:=hb.cell 0;have f0:=hb.frozen 0)
 have hlt:=hb.lt;have hc:=((hb.set 0 (.iface t y)).alloc (.cells #[.iface t y] 140)).cell 0;refine leaves_cons (f:=83) (args := #[.pointer (some ⟨w.heap.size,0,none⟩)]) (by simp) (by simp [go_sem]) ?_;refine (G7 w.heap.size t y _ _ c0 f0 hlt).mono ?_;rintro e u' w'' ⟨rfl,rfl,rfl⟩
 have hr:=kE (P:=Tryz.prog) (fn:=Tryz.f31) (p:=2) (ty:=27) (tmps := #[.func (.func g) #[] lb,undef,.pointer (some ⟨w.heap.size,0,none⟩),.func (.func g) #[] lb,.bool false,undef,.func (.func 83) #[] #[.pointer (some ⟨w.heap.size,0,none⟩)],.func (.func g) #[] lb,undef]) rfl rfl hc Tryz.isAgg27;simp [Leaves,settle]
 exact ⟨_,hr,rfl,w2,hq,rfl⟩
attribute [local go_sem] neq_nilG eql_nilG
def Mt (h d:Nat):Nat:=h / 2 ^ (63-d) % 2
theorem Q6 (h d:Nat):Mt h d<2:=Nat.mod_lt _ (by decide)
theorem Ko (h d:Nat) (hh:h<18446744073709551616) (hd:d<=15) (w:World) :
 Calls Tryz.prog 172 #[.int .u64 (h:Int),.int .i64 (d:Int)] w λe w'=>e = .returned (.tuple #[.int .i64 ((Mt h d:Nat):Int),.nilIface])/\w=w':=by
 have hdp:=FB (d:Int);rw [decide_eq_true (show (0:Int)<=(d:Int)/\(d:Int)<=16 by omega)] at hdp;have hsub:((63:Int)-(d:Int))=((63-d:Nat):Int):=by omega
 obtain ⟨q,hq0⟩:=dC (h / 2 ^ (63-d));have hq:(h:Int) / 2 ^ (63-d)=(q:Int):=by rw [hq0];simp
 have hb:Mt h d=q % 2:=by unfold Mt;rw [hq0]
 rw [hb];have hqb:q<18446744073709551616:=by rw [hq0];exact Nat.lt_of_le_of_lt (Nat.div_le_self _ _) hh
 have hand:bits .and .u64 (q:Int) 1=((q % 2:Nat):Int):=by
  have:=bits_and_u64_nat q 1 hqb (by decide);rw [Nat.and_one_is_mod] at this;exact this
 have hq2:q % 2<2:=Nat.mod_lt _ (by decide);generalize q % 2=b at *
 clear hq0 hb;go_enter Tryz.func172,Tryz.ntmps172
 go_wp2_with (go_at_call 90;refine (hdp _).mono ?_;rintro e w' ⟨rfl,rfl⟩)
 go_ret2;exact ⟨rfl,rfl⟩
theorem UM (v:Int) (w:World):Calls Tryz.prog 171 #[.int .i64 v,.nilIface] w λe w'=>e = .returned (.int .i64 v)/\w=w':=by
 go_enter Tryz.func171,Tryz.ntmps171
 go_wp2_with (go_at_call 180;refine (qE _).mono ?_;rintro e w' ⟨rfl,rfl⟩)
 go_ret;exact ⟨rfl,rfl⟩
theorem Ld (a:Option Addr) (n cap:Nat) (w:World):Calls Tryz.prog 151 #[.slice a n cap,.nilIface] w λe w'=>e = .returned (.slice a n cap)/\w=w':=by
 go_enter Tryz.func151,Tryz.ntmps151
 go_wp2_with (go_at_call 180;refine (qE _).mono ?_;rintro e w' ⟨rfl,rfl⟩)
 go_ret;exact ⟨rfl,rfl⟩
theorem eql_nilP (b:Addr) (w:World):(binOp .eql 85 (.pointer none) (.pointer (some b))).run Tryz.prog w = .ok (.bool false) w:=by kernel_rfl
theorem eql_nilS (a:Addr) (k cap:Nat) (w:World):(binOp .eql 111 (.slice (some a) k cap) (.slice none 0 0)).run Tryz.prog w = .ok (.bool false) w:=by kernel_rfl
attribute [local go_sem] eql_nilP eql_nilS
def sM (w:World) (a:Option Addr) (k:Nat) (F:Nat->Option Addr):Prop:=k≠0->∃G off,a=some ⟨G,off,none⟩/\G<w.heap.size/\∀i,i<k->w.cell? ⟨G,off+i,none⟩=some (.pointer (F i))
theorem Sr (a:Option Addr) (k cap:Nat) (hk:k<1000) (F:Nat->Option Addr) (w:World) (h:sM w a k F) :
 Calls Tryz.prog 191 #[.slice a k cap,.pointer none] w λe w' => ∃z:Int,e = .returned (.int .i64 z)/\(decide (z>=0)=true↔∃i,i<k/\F i=none)/\w=w':=by
 have HP:=aa h;clear h;go_enter Tryz.func191,Tryz.ntmps191
 go_wp2
 go_loopw [8] (λv8 wr => ∃j:Nat,j<=k/\v8 = .int .i64 (j:Int)/\w=wr/\∀i,i<j->F i≠none) (λv8 _=>k-(intOf v8).toNat)
 case atStart=>exact ⟨0,o7 _,rfl,rfl,λi hi=>by omega⟩
 case round =>
  obtain ⟨j,hj,rfl,rfl,hb⟩:=hrel;have HB:=aa hb;clear hb;by_cases hlt:j<k
  . have kJ:(j:Int)<(k:Int):=by omega
    obtain ⟨G,off,rfl,hz,hc⟩:=HP.out (by omega);have c:=hc j hlt;clear hc;cases hF:F j with
    | none =>
     rw [hF] at c;have HF:=aa hF;clear hF;go_wp2;go_ret;exact ⟨(j:Int),rfl,⟨λ_=>⟨j,hlt,HF.out⟩,λ_=>by simp⟩,rfl⟩
    | some b =>
     rw [hF] at c;have HF:=aa hF;clear hF;go_wp2
     go_roundw
     case rel=>exact ⟨j+1,by omega,by go_num,by trivial,λi hi=>by
      by_cases e:i=j
      . subst e;rw [HF.out];simp
      . exact HB.out i (by omega)⟩
     case measure=>simp [intOf];omega
  . obtain rfl:j=k:=by omega
    go_wp2;go_ret;exact ⟨-1,rfl,⟨λh=>by simp at h,λ⟨i,hi,e⟩=>absurd e (HB.out i hi)⟩,rfl⟩
theorem JZ (a:Option Addr) (k cap:Nat) (hk:k<1000) (F:Nat->Option Addr) (b:Bool) (hb:b=true↔∃i,i<k/\F i=none) (w:World) (h:sM w a k F) :
 Calls Tryz.prog 182 #[.slice a k cap,.pointer none] w λe w'=>e = .returned (.bool b)/\w=w':=by
 have IX:=aa (Sr a k cap hk F w h);have HB:=aa hb;clear hb h;go_enter Tryz.func182,Tryz.ntmps182
 go_wp2_with (go_at_call 191;refine IX.out.mono ?_;rintro e w' ⟨z,rfl,hz,rfl⟩;have HZ:=aa (show decide (z>=0)=b by rw [Bool.eq_iff_iff,hz,HB.out]);have hzz:=HZ.out;clear hz)
 go_ret;exact ⟨rfl,rfl⟩
theorem Ez:(Tryz.prog.info? 85).map (λi=>(i.zero,i.size,i.bytes))=some (some (.pointer none),1,8):=by kernel_rfl
theorem KJ {w:World} {base k:Nat} {v:Value} {F:Nat->Option Addr} {e:TypeId} (h:w.ownsRow base e 1 v k ((List.range k).map (λi=>Value.pointer (F i)))) :
 ∃a cap,v = .slice a k cap/\sM w a k F/\(k≠0->∃G,a=some ⟨G,0,none⟩/\base<=G):=by
 rcases h.2 with ⟨rfl,rfl⟩ | ⟨g,cap,cur,rfl,hb,hg,h1,h2,h3,h4⟩
 . exact ⟨none,0,rfl,λh=>absurd rfl h,λh=>absurd rfl h⟩
 . refine ⟨_,cap,rfl,λhk=>⟨g,0,rfl,(Array.getElem?_eq_some_iff.1 hg).1,λi hi=>?_⟩,λ_=>⟨g,rfl,hb⟩⟩;rw [Nat.zero_add];have h5:=h.cells (g:=g) rfl i
   have h6:(⟨g,0,none⟩:Addr).add i=⟨g,i,none⟩:=by
    simp only [Addr.add];split
    . rename_i e;rw [e]
    . simp
   rw [h6] at h5;exact h5 _ (by simp [hi])
theorem Qp (G off j:Nat):(⟨G,off,none⟩:Addr).add j=⟨G,off+j,none⟩:=by
 simp only [Addr.add];split
 . rename_i e;rw [e];simp
 . simp
theorem kH {w:World} {G off k:Nat} {F:Nat->Option Addr} (hc:∀i,i<k->w.cell? ⟨G,off+i,none⟩=some (.pointer (F i))):∀j u,((List.range k).map (λi=>Value.pointer (F i)))[j]?=some u->w.cell? ((⟨G,off,none⟩:Addr).add j)=some u:=λj u hu=>by
 have hj:j<k:=by
  have:=(List.getElem?_eq_some_iff.1 hu).1;simpa using this
 rw [Qp,hc j hj,<-hu];simp [hj]
theorem Tt (a:Option Addr) (k cap:Nat) (h0:k≠0) (hk:k<1000) (F:Nat->Option Addr) (w:World) (h:sM w a k F) :
 Calls Tryz.prog 183 #[.slice a k cap] w λe w' => ∃v,e = .returned v/\w'.ownsRow w.heap.size 85 1 v k ((List.range k).map (λi=>Value.pointer (F i)))/\Below w.heap.size w w':=by
 obtain ⟨i0,hi,hz0,hz1,hz2⟩:=info_parts Ez;obtain ⟨G,off,rfl,hz,hc⟩:=h h0;have HC:=aa hc;clear h hc;go_enter Tryz.func183,Tryz.ntmps183
 go_wp2_with (at_builtin;(refine wpList_append_own _ rfl _ _ 111 rfl w.heap.size 85 i0 (.pointer none) 1 8 Tryz.underlying111 hi hz0 hz1 hz2 rfl (by decide) _ _ _ rfl (gW (af.new w _ #[])) ⟨G,off,none⟩ k cap ((List.range k).map (λi=>Value.pointer (F i))) rfl (by simp) (kH (w:=w.alloc (.cells #[] 85)) (λi hi=>(((aM w.heap.size w).alloc (aL _) (.cells #[] 85)).cell (p:=⟨G,off+i,none⟩) hz).trans (HC.out i hi))) (by simp [Value.oneCell']) (by unfold maxLen;omega) (by omega) (by simp) ?_;intro v' w4 jr ma _;have hb4:=aa (((aM w.heap.size w).alloc (aL _) (.cells #[] 85)).grown ma (by simp) (λk ek=>((gW (af.new w 85 #[])).lt k ek).1));clear ma;replace jr:=aa jr))
 go_ret;exact ⟨_,rfl,by have:=jr.out;simpa using this,hb4.out⟩
structure EW (w:World) (V O G cap k:Nat) (TB:Nat->Nat) (d next:Nat):Prop where
 b:af w V 216 #[.pointer (some ⟨O,0,none⟩),.slice (some ⟨G,0,none⟩) k cap,.int .i64 (d:Int),.int .i64 (next:Int)]
 l:∀i,i<k->w.cell? ⟨G,i,none⟩=some (.pointer (some ⟨TB i,0,none⟩))
 lt:G<w.heap.size
 hk:k=1\/(k=2/\d<=15)
theorem EW.later {w w':World} {V O G cap k:Nat} {TB:Nat->Nat} {d next:Nat} (h:EW w V O G cap k TB d next) (hb:Below w.heap.size w w'):EW w' V O G cap k TB d next :=
 ⟨h.b.below hb h.b.lt,λi hi=>(hb.cell (p:=⟨G,i,none⟩) h.lt).trans (h.l i hi),bM h.lt hb.size,h.hk⟩
theorem EW.aA {X:Nat->Prop} {w w':World} {V O G cap k:Nat} {TB:Nat->Nat} {d next:Nat} (h:EW w V O G cap k TB d next) (hc:ah X w w') (h1:¬X V) (h2:¬X G):EW w' V O G cap k TB d next :=
 ⟨h.b.aA hc h1,λi hi=>(hc.cell (p:=⟨G,i,none⟩) h.lt h2).trans (h.l i hi),bM h.lt hc.size,h.hk⟩
theorem oM {w:World} {V O G cap k:Nat} {TB:Nat->Nat} {d next:Nat} (h:EW w V O G cap k TB d next):w.cell? ⟨V,0,none⟩=some (.pointer (some ⟨O,0,none⟩))/\w.cell? ⟨V,1,none⟩=some (.slice (some ⟨G,0,none⟩) k cap)/\w.cell? ⟨V,2,none⟩=some (.int .i64 (d:Int))/\w.cell? ⟨V,3,none⟩=some (.int .i64 (next:Int))/\V<w.heap.size/\(∀j,w.frozen? ⟨V,j,none⟩=false) :=
 ⟨h.b.cell 0,h.b.cell 1,h.b.cell 2,h.b.cell 3,h.b.lt,λj=>h.b.frozen j⟩
def fO (k d h:Nat):Nat:=if k=1 then 0 else Mt h d
theorem gm {k d h:Nat} (hk:k=1\/(k=2/\d<=15)):fO k d h<k:=by
 unfold fO;split
 . omega
 . have:=Q6 h d;omega
theorem pX (V O G cap k:Nat) (TB:Nat->Nat) (d next h:Nat) (hh:h<18446744073709551616) (w:World) (he:EW w V O G cap k TB d next) :
 Calls Tryz.prog 137 #[.pointer (some ⟨V,0,none⟩),.int .u64 (h:Int)] w λe w'=>e = .returned (.pointer (some ⟨TB (fO k d h),0,none⟩))/\Below w.heap.size w w':=by
 obtain ⟨c0,c1,c2,c3,hl,hf⟩:=oM he;have hz:=he.lt;rcases he.hk with rfl | ⟨rfl,hd⟩
 . have l0:=he.l 0 (by decide);have e1:fO 1 d h=0:=rfl;rw [e1];clear he c0 c2 c3 hf;go_enter Tryz.func137,Tryz.ntmps137
   go_wp2;go_ret;exact ⟨rfl,aM _ _⟩
 . have hb:=Q6 h d;have e1:fO 2 d h=Mt h d:=rfl;have l:=he.l (Mt h d) hb;have BT:=aa (λw'=>Ko h d hh hd w');rw [e1];generalize Mt h d=b at *
   have hb2:(b:Int)<2:=by omega
   have hb3:(b:Int)<((2:Nat):Int):=by omega
   clear he c0 c3 hf e1;go_enter Tryz.func137,Tryz.ntmps137
   go_wp2;refine ag (λ_=>False) #[⟨0,0,2^17,1,0⟩,⟨1,1,2^18,2^17,0⟩,⟨2,3,2^19,2^18,0⟩,⟨4,7,2^20,2^19,1⟩,⟨0,0,2^21,2,0⟩,⟨0,0,2^22,1,0⟩,⟨32,32,2^23,2^22,0⟩,⟨64,96,2^24,2^23,0⟩,⟨128,224,2^25,2^24,1⟩,⟨272,496,2^26,(2^21+2^25),2⟩,⟨512,1008,2^27,2^26,0⟩,⟨512,1008,2^28,2^26,0⟩,⟨3584,4080,2^29,(2^27+2^28),2⟩,⟨4104,8191,2^30,(2^20+2^29),0⟩,⟨8192,16383,2^31,2^30,1⟩,⟨32767,32767,16,2^31,0⟩] (2^3+2^8+2^14) [(0,0),(1,0),(2,0),(3,1),(4,0),(5,0),(6,0),(7,0),(8,1),(9,2),(10,0),(11,0),(12,2),(13,0),(14,1),(15,0)] (by kernel_rfl) (by kernel_rfl) (by kernel_rfl) (by kernel_rfl) (by kernel_rfl) (by kernel_rfl) (λc a d v w h=>by cases d <;> exact h) ?_;refine aj ?_;refine aj ?_;refine aj ?_;refine bW Tryz.underlying111 ?_
   try refine aC ?_;refine aj ?_;refine aj ?_;refine aj ?_;refine aj ?_
   refine bW Tryz.underlying3 ?_
   try refine aC ?_
   refine iK λK hK=>?_;go_wp2_with ((go_at_call 172;refine (BT.out _).mono ?_;rintro e w' ⟨rfl,rfl⟩));refine iX hK (h:=?_);clear hK K
   try refine aC ?_;refine aj ?_;refine aj ?_
   refine iK λK hK=>?_;go_wp2_with ((go_at_call 171;refine (UM _ _).mono ?_;rintro e w' ⟨rfl,rfl⟩));refine iX hK (h:=?_);clear hK K
   try refine aC ?_;refine aj ?_
   refine bW Tryz.underlying85 ?_
   try refine aC ?_;refine aj ?_
   refine aD ?_;go_wp2;go_ret;exact ⟨rfl,(aM _ _).drew⟩
theorem qO (V O Q G cap k:Nat) (TB:Nat->Nat) (d next n:Nat) (hn:n<=64) (hx:next<=n) (v1 v2:Value) (w:World) (he:EW w V O G cap k TB d next) (ht:af w O 143 #[.slice (some ⟨Q,0,none⟩) n n,v1,v2]) :
 Calls Tryz.prog 111 #[.pointer (some ⟨V,0,none⟩)] w λe w'=>e = .returned (.int .i64 ((n-next:Nat):Int))/\Below w.heap.size w w':=by
 obtain ⟨c0,c1,c2,c3,hl,hf⟩:=oM he;have GR:=aa (Cx O Q n v1 v2 w.drew (af.drew ht));have e1:IntKind.i64.wrap ((n:Int)-(next:Int))=((n-next:Nat):Int):=by rw [IntKind.wrap_i64];omega
 clear he ht c1 c2 hf;go_enter Tryz.func111,Tryz.ntmps111
 go_wp2;refine ag (λ_=>False) #[⟨0,0,8,1,0⟩,⟨1,1,16,8,0⟩,⟨2,3,32,16,0⟩,⟨4,7,64,32,1⟩,⟨8,15,128,64,2⟩,⟨0,0,256,1,0⟩,⟨32,32,512,256,0⟩,⟨64,96,1024,512,0⟩,⟨128,224,2048,1024,1⟩,⟨272,511,4096,2176,0⟩,⟨1023,1023,4,4096,0⟩] 264 [(0,0),(1,0),(2,0),(3,1),(5,0),(6,0),(7,0),(8,1),(4,2),(9,0),(10,0)] (by kernel_rfl) (by kernel_rfl) (by kernel_rfl) (by kernel_rfl) (by kernel_rfl) (by kernel_rfl) (λc a d v w h=>by cases d <;> exact h) ?_;refine aj ?_;refine aj ?_;refine aj ?_;refine bW Tryz.underlying85 ?_
 try refine aC ?_;refine aj ?_;refine aj ?_;refine aj ?_
 refine bW Tryz.underlying3 ?_
 try refine aC ?_
 refine iK λK hK=>?_;go_wp2_with (go_at_call 49;refine GR.out.mono ?_;rintro e w' ⟨rfl,rfl⟩);refine iX hK (h:=?_);clear hK K
 try refine aC ?_;refine aj ?_;refine aj ?_
 refine aD ?_;go_wp2;go_ret;exact ⟨rfl,(aM _ _).drew⟩
theorem Vw (O d:Nat) (a:Option Addr) (k cap:Nat) (TB:Nat->Nat) (hk:k=1\/(k=2/\d<=15)) (w:World) (h:sM w a k (λi=>some ⟨TB i,0,none⟩)) :
 Calls Tryz.prog 160 #[.pointer (some ⟨O,0,none⟩),.int .i64 (d:Int),.slice a k cap] w λe w' => ∃V G cap',e = .returned (.tuple #[.pointer (some ⟨V,0,none⟩),.nilIface])/\w.heap.size<=V/\w.heap.size<=G/\EW w' V O G cap' k TB d 0/\V≠G/\Below w.heap.size w w':=by
 have CO:=aa (JZ a k cap (by omega) _ false ⟨λe=>(by cases e),λ⟨i,hi,e⟩=>(by cases e)⟩ w h);have CL:=aa (Tt a k cap (by omega) (by omega) _ w h);have HK:=aa hk;clear h;rcases hk with rfl | ⟨rfl,hd⟩
 . have d0:True:=trivial;go_enter Tryz.func160,Tryz.ntmps160
   go_wp2_with (first
    | (go_at_call 182;refine CO.out.mono ?_;rintro e w' ⟨rfl,rfl⟩)
    | (go_at_call 183;refine CL.out.mono ?_;rintro e w1 ⟨v,rfl,hr1,hb1⟩;have hz1:=hb1.size;obtain ⟨a',cap',rfl,hP,hG⟩:=KJ hr1;obtain ⟨G,rfl,hGb⟩:=hG (by decide);have HP:=aa hP;clear hr1 hP hG))
   go_ret2;obtain ⟨G',off',e,hGz,hGc⟩:=HP.out (by decide);cases e
   simp only [Nat.zero_add] at hGc;exact ⟨w1.heap.size,G,cap',rfl,hz1,hGb,⟨af.new _ _ _,λi hi=>(((aM w1.heap.size w1).alloc (aL _) _).cell (p:=⟨G,i,none⟩) hGz).trans (hGc i hi),by simp;omega,by exact .inl rfl⟩,by omega,hb1.alloc hz1 _⟩
 . have hd2:(d:Int)<=15:=by omega
   go_enter Tryz.func160,Tryz.ntmps160
   go_wp2_with (first
    | (go_at_call 182;refine CO.out.mono ?_;rintro e w' ⟨rfl,rfl⟩)
    | (go_at_call 183;refine CL.out.mono ?_;rintro e w1 ⟨v,rfl,hr1,hb1⟩;have hz1:=hb1.size;obtain ⟨a',cap',rfl,hP,hG⟩:=KJ hr1;obtain ⟨G,rfl,hGb⟩:=hG (by decide);have HP:=aa hP;clear hr1 hP hG))
   go_ret2;obtain ⟨G',off',e,hGz,hGc⟩:=HP.out (by decide);cases e
   simp only [Nat.zero_add] at hGc;exact ⟨w1.heap.size,G,cap',rfl,hz1,hGb,⟨af.new _ _ _,λi hi=>(((aM w1.heap.size w1).alloc (aL _) _).cell (p:=⟨G,i,none⟩) hGz).trans (hGc i hi),by simp;omega,by exact .inr ⟨rfl,hd⟩⟩,by omega,hb1.alloc hz1 _⟩
end Go.Proofs.YtolhmibejhldkaaGreatDoor
namespace Go.Proofs.YtolhmibejhldkaaGreatDoor
open Go.RowKit Go.Proofs
attribute [local go_sem] neq_nilG eql_nilG
def TT (k d:Nat) (s:(Nat->ae)×Nat) (e:ai):(Nat->ae)×Nat :=
 (upd s.1 (fO k d e.hash.toNat) ((s.1 (fO k d e.hash.toNat)).aR e.key e.val e.hash.toNat),s.2+(s.1 (fO k d e.hash.toNat)).looks e.key e.hash.toNat)
def jN (k d:Nat) (l:List ai) (s:(Nat->ae)×Nat):(Nat->ae)×Nat:=l.foldl (TT k d) s
theorem Vx (k d:Nat) (l:List ai) (e:ai) (s:(Nat->ae)×Nat):jN k d (l ++ [e]) s=TT k d (jN k d l s) e:=by unfold jN;rw [List.foldl_append];rfl
theorem mq {k d j:Nat} {l:List ai} (hj:j<l.length) (s:(Nat->ae)×Nat):jN k d (l.take (j+1)) s=TT k d (jN k d (l.take j) s) l[j]:=by
 rw [<-Vx,List.take_append_getElem hj]
def nH (k d:Nat) (l:List ai) (U:Nat->ae):Prop := ∀j (h:j<l.length),((jN k d (l.take j) (U,0)).1 (fO k d l[j].hash.toNat)).bB l[j].key l[j].hash.toNat=true
theorem Ed {T:ae} {key:Int} {h:Nat} (hb:T.bB key h=true):T.bN key h=0:=by
 unfold ae.bB at hb;simp only [Bool.and_eq_true] at hb;unfold ae.bN;rw [if_pos (.inr hb.2)]
theorem nW (mt:aG) (x y z:Int) (p q:Nat):addN (addN mt x y z p) x y z q=addN mt x y z (p+q):=by
 induction q with
 | zero=>rfl
 | succ q ih=>show (addN (addN mt x y z p) x y z q).add x y z=_;rw [ih];rfl
theorem eZ (mt:aG) (x y z:Int):∀p,(addN mt x y z p).limited=mt.limited
 | 0=>rfl
 | p+1=>eZ mt x y z p
structure aj8 (V O Q G M k:Nat) (TB R:Nat->Nat) (n0:Nat):Prop where
 o:n0<=V/\n0<=O/\n0<=Q/\n0<=G/\n0<=M
 v:V≠O/\V≠Q/\V≠G/\V≠M
 g:G≠O/\G≠Q/\G≠M
 m:M≠O/\M≠Q
 tv:∀i,i<k->TB i≠V/\TB i≠G/\TB i≠M/\TB i≠O/\TB i≠Q
 rv:∀i,i<k->R i≠V/\R i≠G/\R i≠M/\R i≠O/\R i≠Q
 tt:∀i j,i<k->j<k->i≠j->TB i≠TB j/\TB i≠R j/\R i≠TB j/\R i≠R j
structure EV (w:World) (V O Q G cap k:Nat) (TB R:Nat->Nat) (d next:Nat) (T:ae) (U:Nat->ae) (M:Nat) (mt:aG) (E:Nat->Addr) (w0:World):Prop where
 e:EW w V O G cap k TB d next
 t:TN w O Q T E w0
 u:∀i,i<k->TN w (TB i) (R i) (U i) E w0
 m:af w M 37 mt.cells
 s:aj8 V O Q G M k TB R w0.heap.size
section
variable {w w' w0:World} {V O Q G cap k:Nat} {TB R:Nat->Nat} {d next:Nat} {T:ae} {U:Nat->ae} {M:Nat} {mt:aG} {E:Nat->Addr}
theorem EV.later (h:EV w V O Q G cap k TB R d next T U M mt E w0) (hb:Below w.heap.size w w'):EV w' V O Q G cap k TB R d next T U M mt E w0 :=
 ⟨h.e.later hb,h.t.later hb,λi hi=>(h.u i hi).later hb,h.m.below hb h.m.lt,h.s⟩
theorem EV.alloc (h:EV w V O Q G cap k TB R d next T U M mt E w0) (o:Obj):EV (w.alloc o) V O Q G cap k TB R d next T U M mt E w0:=h.later ((aM _ _).alloc (aL _) o)
theorem EV.drew (h:EV w V O Q G cap k TB R d next T U M mt E w0):EV w.drew V O Q G cap k TB R d next T U M mt E w0:=h.later (aM _ _).drew
theorem EV.aA {X:Nat->Prop} (h:EV w V O Q G cap k TB R d next T U M mt E w0) (hc:ah X w w') (hX:∀b,X b->w0.heap.size<=b) (h1:¬X V/\¬X O/\¬X Q/\¬X G/\¬X M) (h2:∀i,i<k->¬X (TB i)/\¬X (R i)):EV w' V O Q G cap k TB R d next T U M mt E w0 :=
 ⟨h.e.aA hc h1.1 h1.2.2.2.1,eT.aA h.t hc hX h1.2.1 h1.2.2.1 (λb e=>by cases e),λi hi=>eT.aA (h.u i hi) hc hX (h2 i hi).1 (h2 i hi).2 (λb e=>by cases e),h.m.aA hc h1.2.2.2.2,h.s⟩
theorem EV.put (h:EV w V O Q G cap k TB R d next T U M mt E w0) {i:Nat} (hi:i<k) (key v:Int) (hs:Nat) (hh:hs<18446744073709551616) (x y z:Int) :
 Calls Tryz.prog 154 #[.pointer (some ⟨TB i,0,none⟩),.agg #[.pointer (some ⟨M,0,none⟩),.int .i64 x,.int .i64 y,.int .i64 z],.agg #[.int .u64 key,.int .u64 v,.int .u64 (hs:Int)]] w λe w' =>
  e = .returned (.tuple #[.bool ((U i).bB key hs),jF E ((U i).bN key hs)])/\EV w' V O Q G cap k TB R d next T (upd U i ((U i).aR key v hs)) M (addN mt x y z ((U i).looks key hs)) E w0/\ah (λb=>b=M\/b=TB i\/b=R i) w w':=by
 have ho:=h.s.o;have tv:=h.s.tv i hi;have rv:=h.s.rv i hi;have hv:=h.s.v;have hg:=h.s.g;have hm:=h.s.m;have hTB:=(h.u i hi).hB;have hR:=(h.u i hi).hQ;refine (TN.aio (h.u i hi) h.m (λe=>tv.2.2.1 e.symm) (λe=>rv.2.2.1 e.symm) ho.2.2.2.2 key v hs hh x y z).mono ?_;rintro e w' ⟨rfl,h1,h2,h3⟩
 refine ⟨rfl,⟨h.e.aA h3 (by rintro (e|e|e);exact hv.2.2.2 e;exact tv.1 e.symm;exact rv.1 e.symm) (by rintro (e|e|e);exact hg.2.2 e;exact tv.2.1 e.symm;exact rv.2.1 e.symm),TN.ae0 h.t h3 ho.2.2.2.2 hTB hR ⟨Ne.symm hm.1,Ne.symm tv.2.2.2.1,Ne.symm rv.2.2.2.1⟩ ⟨Ne.symm hm.2,Ne.symm tv.2.2.2.2,Ne.symm rv.2.2.2.2⟩,λj hj=>?_,h2,h.s⟩,h3⟩;by_cases e:j=i
 . subst e;rw [upd_same];exact h1
 . rw [ay _ _ e];have tt:=h.s.tt j i hj hi e;have tvj:=h.s.tv j hj;have rvj:=h.s.rv j hj;exact TN.ae0 (h.u j hj) h3 ho.2.2.2.2 hTB hR ⟨tvj.2.2.1,tt.1,tt.2.1⟩ ⟨rvj.2.2.1,tt.2.2.1,tt.2.2.2⟩
theorem EV.take (h:EV w V O Q G cap k TB R d next T U M mt E w0) (hn:next<T.n) (x y z:Int) :
 Calls Tryz.prog 152 #[.pointer (some ⟨O,0,none⟩),.agg #[.pointer (some ⟨M,0,none⟩),.int .i64 x,.int .i64 y,.int .i64 z],.int .i64 (next:Int)] w λe w' =>
  ∃v,e = .returned (.tuple #[v,.nilIface])/\w'.ownsRow w.heap.size 46 3 v (aS (T.M next) (T.S next)).length (cB (aS (T.M next) (T.S next)))/\EV w' V O Q G cap k TB R d next (T.dw next) U M (mt.add x y z) E w0/\ah (λb=>b=M\/b=O\/b=Q) w w':=by
 have ho:=h.s.o;have hv:=h.s.v;have hg:=h.s.g;have hm:=h.s.m;refine ((eT.acD h.t h.m hm.1 hm.2 ho.2.2.2.2).take next hn _ (di.m M) x y z).mono ?_;rintro e w' ⟨v,rfl,h1,h2,h3⟩
 have h4:ah (λb=>b=M\/b=O\/b=Q) w w':=h3.mono (λb _ e=>by
  rcases e with e|e
  . exact .inl (Option.some.inj e).symm
  . exact .inr e)
 refine ⟨v,rfl,h1,⟨h.e.aA h4 (by rintro (e|e|e) <;> omega) (by rintro (e|e|e) <;> omega),h2.Ay,λj hj=>?_,h2.m M rfl,h.s⟩,h4⟩;have tvj:=h.s.tv j hj;have rvj:=h.s.rv j hj;exact TN.ae0 (h.u j hj) h4 ho.2.2.2.2 ho.2.1 ho.2.2.1 ⟨tvj.2.2.1,tvj.2.2.2.1,tvj.2.2.2.2⟩ ⟨rvj.2.2.1,rvj.2.2.2.1,rvj.2.2.2.2⟩
theorem EV.unit (h:EV w V O Q G cap k TB R d next T U M mt E w0) (hl:mt.limited=false) :
 Calls Tryz.prog 150 #[.pointer (some ⟨M,0,none⟩),.int .i64 1] w λe w'=>e = .returned (.tuple #[])/\EV w' V O Q G cap k TB R d next T U M (mt.add 0 0 1) E w0/\ah (λb=>b=M) w w':=by
 have ho:=h.s.o;have hv:=h.s.v;have hg:=h.s.g;have hm:=h.s.m;refine (Hf mt 1 (by decide) hl M 37 w h.m).mono ?_;rintro e w' ⟨rfl,h1,h2⟩
 exact ⟨rfl,⟨h.e.aA h2 (by omega) (by omega),TN.agR h.t h2 ho.2.2.2.2 (by omega) (by omega),λj hj=>TN.agR (h.u j hj) h2 ho.2.2.2.2 (h.s.tv j hj).2.2.1 (h.s.rv j hj).2.2.1,h1,h.s⟩,h2⟩
theorem qM {m:Nat} {s:Nat->ai} (hg:jC m s) {e:ai} (he:e∈aS m s):e.hash=((e.hash.toNat:Nat):Int)/\e.hash.toNat<18446744073709551616:=by
 unfold aS aI at he;simp only [List.mem_map,List.mem_filter,List.mem_range] at he;obtain ⟨i,⟨hi,-⟩,rfl⟩:=he;obtain ⟨-,h,e1,e2,-⟩:=hg.2 i hi;rw [e1];exact ⟨by simp,by simpa using e2⟩
theorem VA (h:EV w V O Q G cap k TB R d next T U M mt E w0) (hn:next=T.n) (p:Option Addr) :
 Calls Tryz.prog 107 #[.pointer (some ⟨V,0,none⟩),.pointer p] w λe w'=>e = .returned (.bool false)/\EV w' V O Q G cap k TB R d next T U M mt E w0/\Below w.heap.size w w':=by
 have hb:=h.t.good.bounds;have LF:=aa (qO V O Q G cap k TB d next T.n hb.1 (by omega) _ _ w h.e h.t.t.head);rw [show T.n-next=0 by omega] at LF;have HV:=aa h;clear h hn hb;go_enter Tryz.func107,Tryz.ntmps107
 go_wp2_with (go_at_call 111;refine LF.out.mono ?_;rintro e w1 ⟨rfl,hb1⟩)
 go_ret;exact ⟨rfl,HV.out.later hb1,hb1⟩
structure TV (wr:World) (V O Q G cap k:Nat) (TB R:Nat->Nat) (d next:Nat) (T':ae) (l:List ai) (s:(Nat->ae)×Nat) (M:Nat) (mt:aG) (E:Nat->Addr) (base:Nat) (vl:Value) (w0 w:World):Prop where
 e:EV wr V O Q G cap k TB R d next T' s.1 M (addN mt 0 1 0 s.2) E w0
 r:wr.ownsRow base 46 3 vl l.length (cB l)
 c:ah (λb=>b=M\/b=O\/b=Q\/b=V\/∃i,i<k/\(b=TB i\/b=R i)) w wr
theorem TV.later {wr w' w:World} {T':ae} {l:List ai} {s:(Nat->ae)×Nat} {base:Nat} {vl:Value} (h:TV wr V O Q G cap k TB R d next T' l s M mt E base vl w0 w) (hb:Below wr.heap.size wr w'):TV w' V O Q G cap k TB R d next T' l s M mt E base vl w0 w :=
 ⟨h.e.later hb,aB h.r hb,h.c.au hb⟩
theorem TV.drew {wr w:World} {T':ae} {l:List ai} {s:(Nat->ae)×Nat} {base:Nat} {vl:Value} (h:TV wr V O Q G cap k TB R d next T' l s M mt E base vl w0 w):TV wr.drew V O Q G cap k TB R d next T' l s M mt E base vl w0 w:=h.later (aM _ _).drew
theorem Vz (h:EV w V O Q G cap k TB R d next T U M mt E w0) (hn:next<T.n) (hl:mt.limited=false) (hok:nH k d (aS (T.M next) (T.S next)) U) :
 Calls Tryz.prog 107 #[.pointer (some ⟨V,0,none⟩),.pointer (some ⟨M,0,none⟩)] w λe w' =>
  e = .returned (.bool true)/\EV w' V O Q G cap k TB R d (next+1) (T.dw next) (jN k d (aS (T.M next) (T.S next)) (U,0)).1 M (addN (mt.add 0 0 1) 0 1 0 (1+(jN k d (aS (T.M next) (T.S next)) (U,0)).2)) E w0/\
  ah (λb=>b=M\/b=O\/b=Q\/b=V\/∃i,i<k/\(b=TB i\/b=R i)) w w':=by
 have hb:=h.t.good.bounds;have LF:=aa (qO V O Q G cap k TB d next T.n hb.1 (by omega) _ _ w h.e h.t.t.head);have e0:(((T.n-next:Nat):Int) == 0)=false:=by simp;omega
 have HH:=aa (λe=>qM (e:=e) (h.t.good.good next hn));have hl8:=lK (T.M next) (T.S next);have hki:=h.e.hk;have UN:=aa (λ(w':World) (h:EV w' V O Q G cap k TB R d next T U M mt E w0)=>h.unit hl);have TK:=aa (λ(w':World) (h:EV w' V O Q G cap k TB R d next T U M (mt.add 0 0 1) E w0)=>h.take hn 0 1 0);have WK:=aa (λ(w':World)=>o9 (some ⟨M,0,none⟩) w');have zM:=h.m.lt;have HV:=aa h;obtain ⟨c0,c1,c2,c3,zV,hf⟩:=oM h.e;obtain ⟨hVO,hVQ,hVG,hVM⟩:=h.s.v;have rH:=aa hok;have agl:next<64:=by omega
 obtain ⟨l,hll⟩:=dC (aS (T.M next) (T.S next));rw [<-hll] at TK rH hl8 HH ⊢;clear h hok hll hn c0 c1 c2 c3 hf;go_enter Tryz.func107,Tryz.ntmps107
 go_wp2_with (first
  | (go_at_call 111;refine LF.out.mono ?_;rintro e w1 ⟨rfl,hb1⟩;have V1:=aa (HV.out.later hb1);have hz1:=hb1.size;clear HV LF)
  | (go_at_call 150;(with_reducible refine (UN.out _ V1.out).mono ?_);rintro e w2 ⟨rfl,hv2,hc2⟩;have V2:=aa hv2;have hz2:=hc2.size;have C2:=aa (show ah (λb=>b=M\/b=O\/b=Q\/b=V\/∃i,i<k/\(b=TB i\/b=R i)) w w2 from (ah.of_below hb1).trans (hc2.mono (λ_ _ e => .inl e)));obtain ⟨d0,d1,d2,d3,zV2,df⟩:=oM V2.out.e;clear hv2 V1))
 refine ag (λb=>b=M\/b=O\/b=Q) #[⟨0,0,2^14,1,0⟩,⟨1,1,2^15,2^14,0⟩,⟨2,3,2^16,2^15,0⟩,⟨4,7,2^17,2^16,1⟩,⟨0,0,2^18,2,0⟩,⟨16,16,2^19,2^18,2⟩,⟨0,0,2^20,1,0⟩,⟨64,64,2^21,2^20,0⟩,⟨128,192,2^22,2^21,0⟩,⟨256,448,2^23,2^22,1⟩,⟨552,1023,2^24,(2^17+2^19+2^23),3⟩,⟨1024,2047,2^25,2^24,0⟩,⟨1024,2047,2^26,2^24,0⟩,⟨7168,8191,2^27,(2^25+2^26),3⟩,⟨8192,16383,2^28,2^27,0⟩,⟨0,0,2^29,0,0⟩] 520 [(0,0),(1,0),(2,0),(3,1),(4,0),(6,0),(7,0),(8,0),(9,1),(15,0),(5,2),(10,3),(11,0),(12,0),(13,3),(14,0)] (by kernel_rfl) (by kernel_rfl) (by kernel_rfl) (by kernel_rfl) (by kernel_rfl) (by kernel_rfl) (λc a d v w h=>by cases d <;> exact h) ?_;refine aj ?_;refine aj ?_;refine aj ?_;refine bW Tryz.underlying85 ?_
 try refine aC ?_;refine aj ?_;refine aj ?_;refine aj ?_;refine aj ?_
 refine bW Tryz.underlying3 ?_
 try refine aC ?_;refine aj ?_
 refine iK λK hK=>?_;go_wp2_with ((go_at_call 153;(with_reducible refine (WK.out _).mono ?_);rintro e w3 ⟨rfl,hb3⟩;have V3:=aa (V2.out.drew.later hb3);obtain ⟨d30,d31,d32,d33,zV3,df3⟩:=oM V3.out.e));refine iX hK (h:=?_);clear hK K
 try refine aC ?_
 refine fA λK hK=>?_;go_wp2_with ((go_at_call 152;(with_reducible refine (TK.out _ V3.out).mono ?_);rintro e w4 ⟨vl,rfl,hr4,hv4,hc4⟩;obtain ⟨av,G8,rfl⟩:=bZ hr4;have V4:=aa hv4;have R4:=aa hr4;have C4:=aa hc4;clear hv4 hr4));refine hK.out _ _ ?_;clear hK K
 try refine aC ?_;refine aj ?_;refine aj ?_
 refine fA λK hK=>?_;go_wp2_with ((go_at_call 151;(with_reducible refine (Ld _ _ _ _).mono ?_);rintro e w5 ⟨rfl,rfl⟩));refine hK.out _ _ ?_;clear hK K
 try refine aC ?_;refine aj ?_
 refine aD ?_;go_wp2;refine bG (λwL og=>?_);obtain ⟨m1,hm1⟩:=dC ((mt.add 0 0 1).add 0 1 0);obtain ⟨b0,hb0⟩:=dC w3.heap.size;have hMb:M<b0:=by have:=V3.out.m.lt;omega
 have hXb:∀i,i<k->TB i<b0/\R i<b0:=λi hi=>by have h1:=(V3.out.u i hi).Sg;have h2:=(V3.out.u i hi).Sd;omega
 have hwb:w.heap.size<=b0:=by rw [hb0];have:=hb3.size;simp at this;omega
 have D0:=aa (show TV wL V O Q G cap k TB R d next (T.dw next) l (jN k d (l.take 0) (U,0)) M m1 E b0 (.slice av l.length G8) w0 w by
  rw [og,hm1,hb0];refine ⟨V4.out,R4.out,((C2.out.drew.au hb3).trans (C4.out.mono (λ_ _ e=>?_)))⟩;rcases e with e|e|e
  . exact .inl e
  . exact .inr (.inl e)
  . exact .inr (.inr (.inl e)))
 have HM1:=aa hm1;have HXB:=aa hXb;replace og:=aa og;clear V2 V3 V4 R4 C4 C2 hb3 hb0 hm1 hXb d0 d1 d2 d3 d30 d31 d32 d33 df df3 zV2 zV3 TK UN
 go_loopw [29] (λv29 wr => ∃j:Nat,j<=l.length/\v29 = .int .i64 (j:Int)/\TV wr V O Q G cap k TB R d next (T.dw next) l (jN k d (l.take j) (U,0)) M m1 E b0 (.slice av l.length G8) w0 w) (λv29 _=>l.length-(intOf v29).toNat)
 case atStart=>exact ⟨0,o7 _,rfl,D0.out⟩
 case round =>
  clear D0;obtain ⟨j,hj,rfl,hS⟩:=hrel;have KS:=aa hS;clear hS;by_cases hlt:j<l.length
  . have kJ:(j:Int)<(l.length:Int):=by omega
    have HT:=aa (mq (k:=k) (d:=d) hlt (U,0));have hpb:=rH.out j hlt;obtain ⟨av',acY,e,-,hrow⟩:=kL KS.out.r;cases e
    obtain ⟨b,rfl,hbb,hbz,hcl⟩:=hrow (λe=>by rw [e] at hlt;exact absurd hlt (by simp));obtain ⟨g0,g1,g2⟩:=hcl j hlt;obtain ⟨GU,LH⟩:=HH.out l[j] (List.getElem_mem hlt);unfold TT at HT;obtain ⟨s,hs⟩:=dC (jN k d (l.take j) (U,0));rw [<-hs] at HT hpb KS;rw [GU] at g2;generalize l[j].hash.toNat=hs' at *
    generalize l[j].key=ky at *
    generalize l[j].val=vv at *
    have hi:=gm (h:=hs') hki;have TG:=aa (λ(w':World) (h:EW w' V O G cap k TB d next)=>pX V O G cap k TB d next hs' LH w' h);generalize fO k d hs'=i at *
    have PU:=aa (λ(w':World) (h:EV w' V O Q G cap k TB R d next (T.dw next) s.1 M (addN m1 0 1 0 s.2) E w0)=>h.put hi ky vv hs' LH 0 1 0);rw [hpb,Ed hpb,fG,nW] at PU;clear hcl hrow GU hs hpb;go_upto_region 7 with (fail)
    refine bG (λw5 JG=>?_);have S5:=aa (show TV w5 V O Q G cap k TB R d next (T.dw next) l s M m1 E b0 (.slice (some ⟨b,0,none⟩) l.length G8) w0 w by rw [JG];exact KS.out.later (by go_grown));have P5:=aa (show af w5 wr.heap.size 46 #[.int .u64 ky,.int .u64 vv,.int .u64 (hs':Int)] by rw [JG];exact af.new _ _ _);obtain ⟨p0,p1,p2⟩:=cells3 P5.out;have zP:=P5.out.lt;have zM5:=S5.out.e.m.lt;have zT5:=(S5.out.e.u i hi).Sg;have zR5:=(S5.out.e.u i hi).Sd;obtain ⟨zTb,zRb⟩:=HXB.out i hi;have aiI:b0<=wr.heap.size:=by omega
    replace JG:=aa JG;clear KS g0 g1 g2 hbz;refine ag (λb=>b=M\/b=TB i\/b=R i) #[⟨0,0,2^34,1,0⟩,⟨0,0,2^35,64,0⟩,⟨2,2,2^36,2^35,1⟩,⟨5,7,2^37,(2^34+2^36),2⟩,⟨0,0,2^38,2,0⟩,⟨24,31,2^39,2^38,2⟩,⟨0,0,2^40,64,1⟩,⟨104,127,2^41,(2^37+2^39+2^40),3⟩,⟨128,255,2^33,2^41,0⟩,⟨256,511,2^42,2^33,0⟩,⟨256,511,2^43,2^33,0⟩,⟨1023,1023,128,2^42,0⟩,⟨4095,4095,256,2^43,0⟩] 68 [(0,0),(1,0),(2,1),(4,0),(6,1),(3,2),(5,2),(7,3),(8,0),(9,0),(10,0),(11,0),(12,0)] (by kernel_rfl) (by kernel_rfl) (by kernel_rfl) (by kernel_rfl) (by kernel_rfl) (by kernel_rfl) (λc a d v w h=>by cases d <;> exact h) ?_;refine aj ?_;refine aj ?_;refine bW Tryz.underlying38 ?_
    try refine aC ?_;refine aj ?_
    refine jR [_,_,_] Tryz.underlying46 ?_
    try refine aC ?_
    refine iK λK hK=>?_;go_wp2_with ((go_at_call 137;(with_reducible refine (TG.out _ S5.out.drew.e.e).mono ?_);rintro e w6 ⟨rfl,hb6⟩;have S6:=aa (S5.out.drew.later hb6)));refine iX hK (h:=?_);clear hK K
    try refine aC ?_
    refine iK λK hK=>?_;go_wp2_with ((go_at_call 153;(with_reducible refine (WK.out _).mono ?_);rintro e w7 ⟨rfl,NY⟩;have S7:=aa (S6.out.later NY)));refine iX hK (h:=?_);clear hK K
    try refine aC ?_
    refine fA λK hK=>?_;go_wp2_with ((go_at_call 154;(with_reducible refine (PU.out _ S7.out.e).mono ?_);rintro e w8 ⟨rfl,Lv,hc8⟩;have V8:=aa Lv;have R8:=aa (fo S7.out.r hc8 (by rintro b' hb' (e|e|e) <;> omega));have C8:=aa (S7.out.c.trans (hc8.mono (λ_ _ e=>show _=M\/_=O\/_=Q\/_=V\/∃i,i<k/\(_=TB i\/_=R i) by rcases e with e|e|e;exact .inl e;exact .inr (.inr (.inr (.inr ⟨i,hi,.inl e⟩)));exact .inr (.inr (.inr (.inr ⟨i,hi,.inr e⟩))))));clear Lv));refine hK.out _ _ ?_;clear hK K
    try refine aC ?_;refine aj ?_;refine aj ?_;refine aj ?_;refine aj ?_;refine aj ?_
    refine aD ?_
    go_wp2_with (go_at_call 155;(with_reducible refine (Lb _).mono ?_);rintro e w9 ⟨rfl,rfl⟩)
    go_roundw
    case rel=>exact ⟨j+1,by omega,by go_num,by rw [HT.out];exact ⟨V8.out,R8.out,C8.out⟩⟩
    case measure=>simp [intOf];omega
  . obtain rfl:j=l.length:=by omega
    obtain ⟨d0,d1,d2,d3,zV2,df⟩:=oM KS.out.e.e;have hnb:(T.dw next).n=T.n:=Az T next;have e1:IntKind.i64.wrap ((next:Int)+1)=((next+1:Nat):Int):=by rw [IntKind.wrap_i64];omega
    go_wp2;go_ret;have hC:ah (λb=>b=V) wr (wr.setCell ⟨V,3,none⟩ (.int .i64 ((next+1:Nat):Int))):=(ah.refl _ _).set1 _ _;have hsp:=KS.out.e.s;rw [List.take_length] at KS
    refine ⟨rfl,⟨⟨KS.out.e.e.b.set 3 _,λi hi=>(hC.cell (p:=⟨G,i,none⟩) KS.out.e.e.lt (λe=>hVG e.symm)).trans (KS.out.e.e.l i hi),bM KS.out.e.e.lt hC.size,hki⟩,
     eT.aA KS.out.e.t hC (by rintro b rfl;exact hsp.o.1) (λe=>hVO e.symm) (λe=>hVQ e.symm) (λb e=>by cases e),λi hi=>eT.aA (KS.out.e.u i hi) hC (by rintro b rfl;exact hsp.o.1) (hsp.tv i hi).1 (hsp.rv i hi).1 (λb e=>by cases e),?_,hsp⟩,KS.out.c.trans (hC.mono (λ_ _ e => .inr (.inr (.inr (.inl e)))))⟩
    have:=KS.out.e.m.aA hC (λe=>hVM e.symm);rw [HM1.out,show (mt.add 0 0 1).add 0 1 0=addN (mt.add 0 0 1) 0 1 0 1 from rfl,nW] at this;exact this
end
end Go.Proofs.YtolhmibejhldkaaGreatDoor
