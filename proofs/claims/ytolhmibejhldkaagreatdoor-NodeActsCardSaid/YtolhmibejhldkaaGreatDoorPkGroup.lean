/- Joined texts; conditions within. -/
import Derived.Deep.DeepCutAuto
import Derived.OrdersIn
import Derived.Test.YtolhmibejhldkaaGreatDoorPkErrs
set_option linter.unusedVariables false
set_option linter.unusedSimpArgs false
set_option maxRecDepth 100000
set_option maxHeartbeats 4000000
namespace Go.Proofs.YtolhmibejhldkaaGreatDoor
open Go.RowKit Go.Proofs
def nC (n:Nat) (F:Nat->Value):Array Value:=((List.range n).map F).toArray
theorem iR (n:Nat) (F:Nat->Value):(nC n F).size=n:=by simp [nC]
theorem gV (n:Nat) (F:Nat->Value) (j:Nat) (hj:j<n):(nC n F)[j]?=some (F j):=by simp [nC,hj]
theorem nV (n:Nat) (F:Nat->Value) (k:Nat) (x:Value) (hk:k<n):(nC n F).setIfInBounds k x=nC n (λj=>if j=k then x else F j):=by
 apply Array.ext_getElem?
 intro j;rw [Array.getElem?_setIfInBounds];by_cases hj:j<n
 . rw [gV _ _ _ hj,gV _ _ _ hj,iR];by_cases e:k=j
   . subst e;rw [if_pos rfl,if_pos hk,if_pos rfl]
   . rw [if_neg e,if_neg (λh=>e h.symm)]
 . rw [Array.getElem?_eq_none (by rw [iR];omega),Array.getElem?_eq_none (by rw [iR];omega)];split
   . rename_i e;subst e;rw [if_neg (by rw [iR];omega)]
   . rfl
theorem oO {n:Nat} {F F':Nat->Value} (h:∀j,j<n->F j=F' j):nC n F=nC n F':=by
 unfold nC;congr 1;exact List.map_congr_left λj hj=>h j (by simpa using hj)
structure ai where
 key:Int
 val:Int
 hash:Int
def ai.zero:ai:=⟨0,0,0⟩
def gF (m:Nat) (s:Nat->ai) (j:Nat):Value :=
 if j=0 then .int .u64 (m:Int) else if (j-1) % 3=0 then .int .u64 (s ((j-1) / 3)).key else if (j-1) % 3=1 then .int .u64 (s ((j-1) / 3)).val else .int .u64 (s ((j-1) / 3)).hash
def eY (s:Nat->ai) (i:Nat) (e:ai):Nat->ai:=λq=>if q=i then e else s q
def GW (w:World) (G o m:Nat) (s:Nat->ai):Prop := ∃T A,af w G T A/\∀j,j<25->A[o+j]?=some (gF m s j)
theorem GW.lt {w:World} {G o m:Nat} {s:Nat->ai} (h:GW w G o m s):G<w.heap.size:=by obtain ⟨T,A,h,-⟩:=h;exact h.lt
theorem GW.below {n:Nat} {w w':World} {G o m:Nat} {s:Nat->ai} (h:GW w G o m s) (hb:Below n w w') (hG:G<n):GW w' G o m s:=by obtain ⟨T,A,h,k⟩:=h;exact ⟨T,A,h.below hb hG,k⟩
theorem GW.aA {X:Nat->Prop} {w w':World} {G o m:Nat} {s:Nat->ai} (h:GW w G o m s) (hb:ah X w w') (hG:¬X G):GW w' G o m s:=by obtain ⟨T,A,h,k⟩:=h;exact ⟨T,A,h.aA hb hG,k⟩
theorem GW.alloc {w:World} {G o m:Nat} {s:Nat->ai} (h:GW w G o m s) (b:Obj):GW (w.alloc b) G o m s:=by obtain ⟨T,A,h,k⟩:=h;exact ⟨T,A,h.alloc b,k⟩
theorem GW.drew {w:World} {G o m:Nat} {s:Nat->ai} (h:GW w G o m s):GW w.drew G o m s:=h
theorem GW.Mr {w:World} {G o m:Nat} {s:Nat->ai} (h:GW w G o m s) (j:Nat) (hj:j<25):w.cell? ⟨G,o+j,none⟩=some (gF m s j):=by obtain ⟨T,A,h,k⟩:=h;exact (h.cell _).trans (k j hj)
theorem GW.word {w:World} {G o m:Nat} {s:Nat->ai} (h:GW w G o m s):w.cell? ⟨G,o,none⟩=some (.int .u64 (m:Int)):=h.Mr 0 (by decide)
theorem GW.frozen {w:World} {G o m:Nat} {s:Nat->ai} (h:GW w G o m s) (j:Nat):w.frozen? ⟨G,j,none⟩=false:=by obtain ⟨T,A,h,k⟩:=h;exact h.frozen j
theorem ab0 (m:Nat) (s:Nat->ai) (i:Nat):gF m s (1+i*3) = .int .u64 (s i).key:=by
 unfold gF;rw [if_neg (by omega),if_pos (by omega),show (1+i*3-1) / 3=i by omega]
theorem aeh (m:Nat) (s:Nat->ai) (i:Nat):gF m s (1+i*3+1) = .int .u64 (s i).val:=by
 unfold gF;rw [if_neg (by omega),if_neg (by omega),if_pos (by omega),show (1+i*3+1-1) / 3=i by omega]
theorem abZ (m:Nat) (s:Nat->ai) (i:Nat):gF m s (1+i*3+2) = .int .u64 (s i).hash:=by
 unfold gF;rw [if_neg (by omega),if_neg (by omega),if_neg (by omega),show (1+i*3+2-1) / 3=i by omega]
theorem GW.slot {w:World} {G o m:Nat} {s:Nat->ai} (h:GW w G o m s) (i:Nat) (hi:i<8) :
 w.cell? ⟨G,o+1+i*3,none⟩=some (.int .u64 (s i).key)/\w.cell? ⟨G,o+1+i*3+1,none⟩=some (.int .u64 (s i).val)/\w.cell? ⟨G,o+1+i*3+2,none⟩=some (.int .u64 (s i).hash):=by
 have h0:=h.Mr (1+i*3) (by omega);have h1:=h.Mr (1+i*3+1) (by omega);have h2:=h.Mr (1+i*3+2) (by omega);rw [ab0] at h0;rw [aeh] at h1;rw [abZ] at h2;refine ⟨?_,?_,?_⟩
 . rw [show o+1+i*3=o+(1+i*3) by omega];exact h0
 . rw [show o+1+i*3+1=o+(1+i*3+1) by omega];exact h1
 . rw [show o+1+i*3+2=o+(1+i*3+2) by omega];exact h2
theorem fP (s:Nat->ai) (i:Nat) (e:ai):eY s i e i=e:=if_pos rfl
theorem GW.abb {w:World} {G o m:Nat} {s:Nat->ai} (h:GW w G o m s) (m':Nat):GW (w.setCell ⟨G,o,none⟩ (.int .u64 (m':Int))) G o m' s:=by
 obtain ⟨T,A,h,k⟩:=h;refine ⟨T,_,h.set o (.int .u64 (m':Int)),λj hj=>?_⟩;have hk:=k j hj;rw [Array.getElem?_setIfInBounds];by_cases e:j=0
 . subst e;rw [if_pos (by omega),if_pos (by have:=(Array.getElem?_eq_some_iff.1 (k 0 hj)).1;omega)];rfl
 . rw [if_neg (by omega),hk];unfold gF;rw [if_neg e,if_neg e]
theorem GW.setSlot {w:World} {G o m:Nat} {s:Nat->ai} (h:GW w G o m s) (i:Nat) (hi:i<8) (e:ai) :
 GW (((w.setCell ⟨G,o+1+i*3,none⟩ (.int .u64 e.key)).setCell ⟨G,o+1+i*3+1,none⟩ (.int .u64 e.val)).setCell ⟨G,o+1+i*3+2,none⟩ (.int .u64 e.hash)) G o m (eY s i e):=by
 obtain ⟨T,A,h,k⟩:=h;refine ⟨T,_,((h.set (o+1+i*3) (.int .u64 e.key)).set (o+1+i*3+1) (.int .u64 e.val)).set (o+1+i*3+2) (.int .u64 e.hash),λj hj=>?_⟩;have hk:=k j hj;have hlt:=(Array.getElem?_eq_some_iff.1 hk).1;simp only [Array.getElem?_setIfInBounds,Array.size_setIfInBounds];by_cases e2:j=1+i*3+2
 . subst e2;rw [if_pos (by omega),if_pos (by omega),abZ,fP]
 . rw [if_neg (by omega)];by_cases e1:j=1+i*3+1
   . subst e1;rw [if_pos (by omega),if_pos (by omega),aeh,fP]
   . rw [if_neg (by omega)];by_cases e0:j=1+i*3
     . subst e0;rw [if_pos (by omega),if_pos (by omega),ab0,fP]
     . rw [if_neg (by omega),hk];unfold gF eY;by_cases z:j=0
       . rw [if_pos z,if_pos z]
       . rw [if_neg z,if_neg z,if_neg (show ¬ (j-1) / 3=i by omega)]
theorem GW.Nk {w:World} {G o m:Nat} {s:Nat->ai} (h:GW w G o m s) (i:Nat) (hi:i<8) (v:Int) :
 GW (w.setCell ⟨G,o+1+i*3+1,none⟩ (.int .u64 v)) G o m (eY s i { s i with val:=v}):=by
 obtain ⟨T,A,h,k⟩:=h;refine ⟨T,_,h.set (o+1+i*3+1) (.int .u64 v),λj hj=>?_⟩;have hk:=k j hj;have hlt:=(Array.getElem?_eq_some_iff.1 hk).1;simp only [Array.getElem?_setIfInBounds];by_cases e1:j=1+i*3+1
 . subst e1;rw [if_pos (by omega),if_pos (by omega),aeh,fP]
 . rw [if_neg (by omega),hk];by_cases e0:j=1+i*3
   . subst e0;rw [ab0,ab0,fP]
   . by_cases e2:j=1+i*3+2
     . subst e2;rw [abZ,abZ,fP]
     . unfold gF eY;by_cases z:j=0
       . rw [if_pos z,if_pos z]
       . rw [if_neg z,if_neg z,if_neg (show ¬ (j-1) / 3=i by omega)]
structure iU (G o:Nat) (w w':World):Prop where
 aA:ah (λb=>b=G) w w'
 rest:∀T A,af w G T A->∃A',af w' G T A'/\A'.size=A.size/\∀j,(j<o\/o+25<=j)->A'[j]?=A[j]?
theorem iU.of_below {G o:Nat} {w w':World} (h:Below w.heap.size w w'):iU G o w w':=⟨ah.of_below h,λT A hA=>⟨A,hA.below h hA.lt,rfl,λ_ _=>rfl⟩⟩
theorem iU.trans {G o:Nat} {a b c:World} (h:iU G o a b) (k:iU G o b c):iU G o a c :=
 ⟨h.aA.trans k.aA,λT A hA=>by
  obtain ⟨A1,h1,s1,r1⟩:=h.rest T A hA;obtain ⟨A2,h2,s2,r2⟩:=k.rest T A1 h1
  exact ⟨A2,h2,s2.trans s1,λj hj=>(r2 j hj).trans (r1 j hj)⟩⟩
theorem iU.drew {G o:Nat} {a w:World} (h:iU G o a w):iU G o a w.drew:=⟨h.aA.drew,h.rest⟩
theorem iU.alloc {G o:Nat} {a w:World} (h:iU G o a w) (b:Obj):iU G o a (w.alloc b):=⟨h.aA.alloc b,λT A hA=>by obtain ⟨A1,h1,k⟩:=h.rest T A hA;exact ⟨A1,h1.alloc b,k⟩⟩
theorem iU.set1 {G o:Nat} {a w:World} (h:iU G o a w) (off:Nat) (u:Value) (hoff:o<=off/\off<o+25):iU G o a (w.setCell ⟨G,off,none⟩ u) :=
 ⟨h.aA.set1 off u,λT A hA=>by
  obtain ⟨A1,h1,s1,r1⟩:=h.rest T A hA
  exact ⟨_,h1.set off u,by rw [Array.size_setIfInBounds,s1],λj hj=>by rw [Array.getElem?_setIfInBounds,if_neg (by omega),r1 j hj]⟩⟩
theorem GW.ajF {w w':World} {G o o' m:Nat} {s:Nat->ai} (h:GW w G o' m s) (c:iU G o w w') (hd:o'+25<=o\/o+25<=o'):GW w' G o' m s:=by
 obtain ⟨T,A,h,k⟩:=h;obtain ⟨A1,h1,s1,r1⟩:=c.rest T A h;exact ⟨T,A1,h1,λj hj=>by rw [r1 _ (by omega),k j hj]⟩
def Qx (G o:Nat):Value := .agg #[.pointer (some ⟨G,o,none⟩)]
theorem sD (m:Nat):nC 25 (gF m (λ_=>ai.zero)) = #[.int .u64 (m:Int),.int .u64 0,.int .u64 0,.int .u64 0,.int .u64 0,.int .u64 0,.int .u64 0,.int .u64 0,.int .u64 0,.int .u64 0,.int .u64 0,.int .u64 0,.int .u64 0,.int .u64 0,.int .u64 0,.int .u64 0,.int .u64 0,.int .u64 0,.int .u64 0,.int .u64 0,.int .u64 0,.int .u64 0,.int .u64 0,.int .u64 0,.int .u64 0]:=rfl
theorem Oe {w:World} {B:Nat} (h:GW w B 0 (rep 128) (λ_=>ai.zero)):w.rangeAt B 0 [.int .u64 ((rep 128:Nat):Int),.int .u64 0,.int .u64 0,.int .u64 0,.int .u64 0,.int .u64 0,.int .u64 0,.int .u64 0,.int .u64 0,.int .u64 0,.int .u64 0,.int .u64 0,.int .u64 0,.int .u64 0,.int .u64 0,.int .u64 0,.int .u64 0,.int .u64 0,.int .u64 0,.int .u64 0,.int .u64 0,.int .u64 0,.int .u64 0,.int .u64 0,.int .u64 0]:=by
 intro j v hj;have hlt:j<25:=(List.getElem?_eq_some_iff.1 hj).1;have:=h.Mr j hlt;rw [Nat.zero_add] at this ⊢;rw [this];have e:=gV 25 (gF (rep 128) (λ_=>ai.zero)) j hlt;rw [sD,List.getElem?_toArray] at e;exact e.symm.trans hj
theorem Vs (w:World):Calls Tryz.prog 136 #[] w λe w'=>e = .returned (.pointer (some ⟨w.heap.size,0,none⟩))/\GW w' w.heap.size 0 (rep 128) (λ_=>ai.zero)/\Below w.heap.size w w':=by
 go_enter Tryz.func136,Tryz.ntmps136
 go_wp2_with (go_at_call 170;refine (aat _).mono ?_;rintro e w' ⟨rfl,rfl⟩)
 go_ret;exact ⟨rfl,⟨_,_,af.new _ _ _,λj hj=>by rw [<-sD,Nat.zero_add];exact gV _ _ _ hj⟩,by go_grown⟩
theorem SF (m:Nat):(decide (bQ (aU m 128)≠0))=(List.range 8).any (aU m 128):=by
 rw [Bool.eq_iff_iff,decide_eq_true_iff,List.any_eq_true]
 constructor
 . intro h;apply Classical.byContradiction
   intro hn;apply h
   have h0:bQ (aU m 128)=bQ (λ_=>false):=pJ λi hi=>by
    cases e:aU m 128 i with
    | false=>rfl
    | true=>exact (hn ⟨i,by simpa using hi,e⟩).elim
   rw [h0];rfl
 . rintro ⟨i,hi,e⟩ h
   have h0:bQ (aU m 128)=bQ (λ_=>false):=by rw [h];rfl
   have:=Sc h0 i (by simpa using hi);rw [e] at this;cases this
def bR (m:Nat):Bool:=(List.range 8).any (aU m 128)
theorem lH (G o m:Nat) (s:Nat->ai) (hm:m<18446744073709551616) (w:World) (h:GW w G o m s) :
 Calls Tryz.prog 97 #[.agg #[.pointer (some ⟨G,o,none⟩)]] w λe w'=>e = .returned (.bool (bR m))/\Below w.heap.size w w':=by
 have c0:=h.word;have hl:=h.lt;have hb:=SF m;have E:=aa (J2 m hm)
 have hz:(((bQ (aU m 128):Nat):Int) != 0)=bR m:=by
  unfold bR;rw [<-hb,Bool.eq_iff_iff,decide_eq_true_iff];simp
 generalize bQ (aU m 128)=q at *
 generalize bR m=ob at *
 have HZ:=aa hz;clear h hb hz;go_enter Tryz.func97,Tryz.ntmps97
 go_wp2_with (go_at_call 146;refine (E.out _).mono ?_;rintro e w' ⟨rfl,rfl⟩)
 go_ret;exact ⟨by rw [<-HZ.out];rfl,by go_grown⟩
def cK (m:Nat) (i:Int) (must:Bool):Nat:=if i<0\/8<=i then 1 else if decide (ln m i.toNat<128)=must then 0 else 5
theorem jh (E:Nat->Addr) (n:Nat) (h:n≠0):jF E n=aO E n:=if_neg h
theorem fG (E:Nat->Addr):jF E 0 = .nilIface:=if_pos rfl
theorem jf (m k:Nat) (must:Bool) (hk:k<8):cK m (k:Int) must=if decide (ln m k<128)=must then 0 else 5:=by
 unfold cK;rw [if_neg (by omega),Int.toNat_natCast]
theorem Ch (m:Nat) (i:Int) (must:Bool) (h:i<0\/8<=i):cK m i must=1:=if_pos h
theorem mh (G o m:Nat) (s:Nat->ai) (hm:m<18446744073709551616) (i:Int) (must:Bool) (E:Nat->Addr) (w:World) (h:GW w G o m s) (he:EC w E [1,5]) :
 Calls Tryz.prog 147 #[.agg #[.pointer (some ⟨G,o,none⟩)],.int .i64 i,.bool must] w λe w'=>e = .returned (jF E (cK m i must))/\Below w.heap.size w w':=by
 have c0:=h.word;have hl:=h.lt;have e1:w.cell? ⟨0,0,none⟩=some (aO E 1):=he 1 (by decide);have e5:w.cell? ⟨2,0,none⟩=some (aO E 5):=he 5 (by decide);have l1:=qx _ _ e1;have l5:=qx _ _ e5;clear h he;by_cases QO:i<0\/8<=i
 . rw [Ch m i must QO,jh E 1 (by decide)];unfold aO at *
   by_cases h0:i<0
   . have d0:decide (i<0)=true:=by simpa using h0
     clear h0 QO;go_enter Tryz.func147,Tryz.ntmps147
     go_wp2;go_ret;exact ⟨rfl,by go_grown⟩
   . have d0:decide (i<0)=false:=by simpa using h0
     have d8:decide (i>=8)=true:=by simp;omega
     clear h0 QO;go_enter Tryz.func147,Tryz.ntmps147
     go_wp2;go_ret;exact ⟨rfl,by go_grown⟩
 obtain ⟨k,rfl⟩:∃k:Nat,i=(k:Int):=⟨i.toNat,by omega⟩
 have hk:k<8:=by omega
 have d0:decide ((k:Int)<0)=false:=by simp
 have d8:decide ((k:Int)>=8)=false:=by simp;omega
 have GT:=aa (Q5 m k hm hk);have hln:=CV m k;rw [jf m k must hk];generalize ln m k=q at *
 clear QO;by_cases hq:q<128
 . have hqI:decide ((q:Int)<128)=true:=by simp;omega
   rw [show decide (q<128)=true by simpa using hq];cases must
   . rw [if_neg (by decide),jh E 5 (by decide)];unfold aO at *
     go_enter Tryz.func147,Tryz.ntmps147
     go_wp2_with (go_at_call 148;refine (GT.out _).mono ?_;rintro e w' ⟨rfl,rfl⟩)
     go_ret;exact ⟨rfl,by go_grown⟩
   . rw [if_pos rfl,fG];unfold aO at *
     go_enter Tryz.func147,Tryz.ntmps147
     go_wp2_with (go_at_call 148;refine (GT.out _).mono ?_;rintro e w' ⟨rfl,rfl⟩)
     go_ret;exact ⟨rfl,by go_grown⟩
 . have hqI:decide ((q:Int)<128)=false:=by simp;omega
   rw [show decide (q<128)=false by simpa using hq];cases must
   . rw [if_pos rfl,fG];unfold aO at *
     go_enter Tryz.func147,Tryz.ntmps147
     go_wp2_with (go_at_call 148;refine (GT.out _).mono ?_;rintro e w' ⟨rfl,rfl⟩)
     go_ret;exact ⟨rfl,by go_grown⟩
   . rw [if_neg (by decide),jh E 5 (by decide)];unfold aO at *
     go_enter Tryz.func147,Tryz.ntmps147
     go_wp2_with (go_at_call 148;refine (GT.out _).mono ?_;rintro e w' ⟨rfl,rfl⟩)
     go_ret;exact ⟨rfl,by go_grown⟩
def atS (m:Nat) (s:Nat->ai) (i:Int):ai:=if cK m i true=0 then s i.toNat else ai.zero
def ai.pg (e:ai):Value := .agg #[.int .u64 e.key,.int .u64 e.val,.int .u64 e.hash]
theorem oI {m:Nat} {i:Int} {must:Bool} (h:cK m i must=0):∃k:Nat,i=(k:Int)/\k<8/\decide (ln m k<128)=must:=by
 unfold cK at h;by_cases c:i<0\/8<=i
 . rw [if_pos c] at h;cases h
 . rw [if_neg c] at h;by_cases e:decide (ln m i.toNat<128)=must
   . exact ⟨i.toNat,by omega,by omega,e⟩
   . rw [if_neg e] at h;cases h
theorem Fq (E:Nat->Addr) (n:Nat) (h:n≠0):jF E n = .iface 259 (.pointer (some (E n))):=if_neg h
theorem neq_nilG (w:World):(binOp .neq 27 .nilIface .nilIface).run Tryz.prog w = .ok (.bool false) w:=run_neq_nil_nil _ _ (by kernel_rfl)
attribute [local go_sem] neq_nilG
theorem QS (G o m:Nat) (s:Nat->ai) (hm:m<18446744073709551616) (i:Int) (E:Nat->Addr) (w:World) (h:GW w G o m s) (he:EC w E [1,5]) :
 Calls Tryz.prog 98 #[.agg #[.pointer (some ⟨G,o,none⟩)],.int .i64 i] w λe w'=>e = .returned (.tuple #[(atS m s i).pg,.bool (cK m i true == 0)])/\Below w.heap.size w w':=by
 have FE:=aa (λw' (hb:Below w.heap.size w w')=>mh G o m s hm i true E w' (h.below hb h.lt) (he.below hb));have hl:=h.lt;by_cases h0:cK m i true=0
 . obtain ⟨k,rfl,hk,-⟩:=oI h0;have ha:atS m s (k:Int)=s k:=by unfold atS;rw [if_pos h0,Int.toNat_natCast]
   rw [ha,h0];rw [h0] at FE;simp only [fG] at FE;obtain ⟨c0,c1,c2⟩:=h.slot k hk;unfold ai.pg;clear h he h0 ha;generalize (s k).key=x0 at *
   generalize (s k).val=x1 at *
   generalize (s k).hash=x2 at *
   go_enter Tryz.func98,Tryz.ntmps98
   go_wp2_with (go_at_call 147;refine (FE.out _ (by go_grown)).mono ?_;rintro e w1 ⟨rfl,hb1⟩;have hB1:Below w.heap.size w w1:=(by (exact Below.trans (by go_grown) (hb1.mono (by simp <;> omega))));have hcG:=λ(o:Nat)=>hb1.cell (p:=⟨G,o,none⟩) (by ((simp <;> omega)));have QP:=λ(o:Nat)=>hb1.frozen (p:=⟨G,o,none⟩) (by ((simp <;> omega)));have hzG:G<w1.heap.size:=bM (by ((simp <;> omega))) hb1.size;have dL:=λ(o:Nat)=>hb1.cell (p:=⟨w.heap.size,o,none⟩) (by ((simp <;> omega)));have dK:=λ(o:Nat)=>hb1.frozen (p:=⟨w.heap.size,o,none⟩) (by ((simp <;> omega)));have dh:w.heap.size<w1.heap.size:=bM (by ((simp <;> omega))) hb1.size;have eH:=λ(o:Nat)=>hb1.cell (p:=⟨w.heap.size+1,o,none⟩) (by ((simp <;> omega)));have eG:=λ(o:Nat)=>hb1.frozen (p:=⟨w.heap.size+1,o,none⟩) (by ((simp <;> omega)));have eF:w.heap.size+1<w1.heap.size:=bM (by ((simp <;> omega))) hb1.size)
   have Kb:af w1 (w.heap.size+1) 46 #[.int .u64 0,.int .u64 0,.int .u64 0]:=af.below (af.aF (by simp)) hb1 (by simp);have r0:=(Kb.set 0 (.int .u64 x0)).cell 0;have r1:=((Kb.set 0 (.int .u64 x0)).set 1 (.int .u64 x1)).cell 1;have r2:=(((Kb.set 0 (.int .u64 x0)).set 1 (.int .u64 x1)).set 2 (.int .u64 x2)).cell 2;simp only [List.setIfInBounds_toArray,List.set_cons_zero,List.set_cons_succ,List.getElem?_toArray,List.getElem?_cons_zero,List.getElem?_cons_succ] at r0 r1 r2;exact bodyPost_ret (v := .tuple #[.agg #[.int .u64 x0,.int .u64 x1,.int .u64 x2],.bool true]) (by simp [results,Tryz.results98,go_sem,r0,r1,r2]) rfl ⟨rfl,((hB1.setCell (p:=⟨w.heap.size+1,0,none⟩) (by simp) _).setCell (p:=⟨w.heap.size+1,1,none⟩) (by simp) _).setCell (p:=⟨w.heap.size+1,2,none⟩) (by simp) _⟩
 . have ha:atS m s i=ai.zero:=by unfold atS;rw [if_neg h0]
   rw [ha,show (cK m i true == 0)=false by simpa using h0];simp only [Fq E _ h0] at FE;clear h he h0 ha;go_enter Tryz.func98,Tryz.ntmps98
   go_wp2_with (go_at_call 147;refine (FE.out _ (by go_grown)).mono ?_;rintro e w1 ⟨rfl,hb1⟩;have hB1:Below w.heap.size w w1:=(by (exact Below.trans (by go_grown) (hb1.mono (by simp <;> omega))));have hcG:=λ(o:Nat)=>hb1.cell (p:=⟨G,o,none⟩) (by ((simp <;> omega)));have QP:=λ(o:Nat)=>hb1.frozen (p:=⟨G,o,none⟩) (by ((simp <;> omega)));have hzG:G<w1.heap.size:=bM (by ((simp <;> omega))) hb1.size;have dL:=λ(o:Nat)=>hb1.cell (p:=⟨w.heap.size,o,none⟩) (by ((simp <;> omega)));have dK:=λ(o:Nat)=>hb1.frozen (p:=⟨w.heap.size,o,none⟩) (by ((simp <;> omega)));have dh:w.heap.size<w1.heap.size:=bM (by ((simp <;> omega))) hb1.size;have eH:=λ(o:Nat)=>hb1.cell (p:=⟨w.heap.size+1,o,none⟩) (by ((simp <;> omega)));have eG:=λ(o:Nat)=>hb1.frozen (p:=⟨w.heap.size+1,o,none⟩) (by ((simp <;> omega)));have eF:w.heap.size+1<w1.heap.size:=bM (by ((simp <;> omega))) hb1.size)
   have Kb:af w1 (w.heap.size+1) 46 #[.int .u64 0,.int .u64 0,.int .u64 0]:=af.below (af.aF (by simp)) hb1 (by simp);have r0:=(Kb.set 0 (.int .u64 0)).cell 0;have r1:=((Kb.set 0 (.int .u64 0)).set 1 (.int .u64 0)).cell 1;have r2:=(((Kb.set 0 (.int .u64 0)).set 1 (.int .u64 0)).set 2 (.int .u64 0)).cell 2;simp only [List.setIfInBounds_toArray,List.set_cons_zero,List.set_cons_succ,List.getElem?_toArray,List.getElem?_cons_zero,List.getElem?_cons_succ] at r0 r1 r2;exact bodyPost_ret (v := .tuple #[.agg #[.int .u64 0,.int .u64 0,.int .u64 0],.bool false]) (by simp [results,Tryz.results98,go_sem,r0,r1,r2]) rfl ⟨rfl,((hB1.setCell (p:=⟨w.heap.size+1,0,none⟩) (by simp) _).setCell (p:=⟨w.heap.size+1,1,none⟩) (by simp) _).setCell (p:=⟨w.heap.size+1,2,none⟩) (by simp) _⟩
theorem Cf (G o m k b:Nat) (s:Nat->ai) (hm:m<18446744073709551616) (hk:k<8) (hb:b<256) (hc:nN b=true) (w:World) (h:GW w G o m s) :
 Calls Tryz.prog 149 #[.agg #[.pointer (some ⟨G,o,none⟩)],.int .i64 (k:Int),.int .u8 (b:Int)] w λe w'=>e = .returned (.tuple #[])/\GW w' G o (fB m k b) s/\iU G o w w':=by
 have ST:=aa (acd m k b hm hk hb hc);have HW:=aa h;have c0:=h.word;have f0:=h.frozen o;have hl:=h.lt;have hne:G≠w.heap.size:=by omega
 generalize fB m k b=m' at *
 clear h;go_enter Tryz.func149,Tryz.ntmps149
 go_wp2_with (go_at_call 179;refine (ST.out _).mono ?_;rintro e w1 ⟨rfl,hb1⟩;have hB1:Below w.heap.size w w1:=(by (exact Below.trans (by go_grown) (hb1.mono (by simp <;> omega))));have hcG:=λ(o:Nat)=>hb1.cell (p:=⟨G,o,none⟩) (by ((simp <;> omega)));have QP:=λ(o:Nat)=>hb1.frozen (p:=⟨G,o,none⟩) (by ((simp <;> omega)));have hzG:G<w1.heap.size:=bM (by ((simp <;> omega))) hb1.size;have dL:=λ(o:Nat)=>hb1.cell (p:=⟨w.heap.size,o,none⟩) (by ((simp <;> omega)));have dK:=λ(o:Nat)=>hb1.frozen (p:=⟨w.heap.size,o,none⟩) (by ((simp <;> omega)));have dh:w.heap.size<w1.heap.size:=bM (by ((simp <;> omega))) hb1.size)
 ((try simp only [Exit.inBlock,Exit.then]);refine bodyPost_end (results_none rfl _ _ _) rfl ?_)
 exact ⟨rfl,(HW.out.below hB1 hl).abb m',(iU.of_below hB1).set1 _ _ (by omega)⟩
end Go.Proofs.YtolhmibejhldkaaGreatDoor
namespace Go.Proofs.YtolhmibejhldkaaGreatDoor
open Go.RowKit
def aN (n:Int):Bool:=n == 1 || n == 2 || n == 4 || n == 8 || n == 16 || n == 32 || n == 64
theorem dG (n:Int):aN n=true↔n=1\/n=2\/n=4\/n=8\/n=16\/n=32\/n=64:=by
 simp [aN,Bool.or_eq_true,or_assoc]
theorem KH (n:Int) (h1:1<=n) (h2:n<=64):(bits .and .i64 n (n-1) == 0)=aN n:=by
 obtain ⟨k,rfl⟩:=Int.eq_ofNat_of_zero_le (show 0<=n by omega);have hk:k<=64:=by omega
 have h0:1<=k:=by omega
 clear h1 h2;have:∀k:Fin 65,1<=k.val->(bits .and .i64 ((k.val:Nat):Int) (((k.val:Nat):Int)-1) == 0)=aN ((k.val:Nat):Int):=by decide +kernel
 exact this ⟨k,by omega⟩ h0
def bE (h g i:Nat):Nat:=(h+i*(i+1) / 2) % g
theorem Ud (i:Nat):(i+1)*(i+2) / 2=i*(i+1) / 2+(i+1):=by
 have:(i+1)*(i+2)=i*(i+1)+(i+1)*2:=by
  simp only [Nat.add_mul,Nat.mul_add];omega
 rw [this,Nat.add_mul_div_right _ _ (by omega)]
theorem Kh (h g i:Nat):bE h g (i+1)=(bE h g i+(i+1)) % g:=by
 simp only [bE,Ud];rw [Nat.mod_add_mod,Nat.add_assoc]
theorem nI (h g i:Nat) (hg:0<g):bE h g i<g:=Nat.mod_lt _ hg
theorem Gt (j a:Nat):a &&& (2 ^ j-1)=a % 2 ^ j:=Nat.and_two_pow_sub_one_eq_mod a j
theorem Cq (a b:Nat) (ha:a<9223372036854775808) (hb:b<9223372036854775808):bits .and .i64 (a:Int) (b:Int)=((a &&& b:Nat):Int):=by
 have h1:(BitVec.ofInt 64 (a:Int)).toNat=a:=by
  rw [BitVec.ofInt_natCast,BitVec.toNat_ofNat];exact Nat.mod_eq_of_lt (by omega)
 have h2:(BitVec.ofInt 64 (b:Int)).toNat=b:=by
  rw [BitVec.ofInt_natCast,BitVec.toNat_ofNat];exact Nat.mod_eq_of_lt (by omega)
 show IntKind.i64.wrap ((BitVec.ofInt 64 (a:Int) &&& BitVec.ofInt 64 (b:Int)).toNat:Int)=_
 have hle:a &&& b<=a:=Nat.and_le_left;rw [BitVec.toNat_and,h1,h2,IntWalk.i64_in _ (by omega)]
theorem BU {g:Nat} (h:aN (g:Int)=true):∃j,j<=6/\g=2 ^ j:=by
 rw [dG] at h;rcases h with h|h|h|h|h|h|h
 . exact ⟨0,by omega,by omega⟩
 . exact ⟨1,by omega,by omega⟩
 . exact ⟨2,by omega,by omega⟩
 . exact ⟨3,by omega,by omega⟩
 . exact ⟨4,by omega,by omega⟩
 . exact ⟨5,by omega,by omega⟩
 . exact ⟨6,by omega,by omega⟩
theorem dZ {g:Nat} (h:aN (g:Int)=true):1<=g/\g<=64:=by
 rw [dG] at h;omega
theorem UQ (a g:Nat) (h:aN (g:Int)=true) (ha:a<9223372036854775808):bits .and .i64 (a:Int) ((g:Int)-1)=((a % g:Nat):Int):=by
 obtain ⟨j,hj,rfl⟩:=BU h;have hb:=dZ h;rw [show ((2 ^ j:Nat):Int)-1=((2 ^ j-1:Nat):Int) by omega,Cq _ _ ha (by omega),Gt]
theorem UO (a g:Nat) (h:aN (g:Int)=true) (ha:a<18446744073709551616):bits .and .u64 (a:Int) ((g:Int)-1)=((a % g:Nat):Int):=by
 obtain ⟨j,hj,rfl⟩:=BU h;have hb:=dZ h;rw [show ((2 ^ j:Nat):Int)-1=((2 ^ j-1:Nat):Int) by omega,bits_and_u64_nat _ _ ha (by omega),Gt]
attribute [local go_sem] neq_nilG
theorem abT (h:Nat) (hh:h<18446744073709551616):bits .and .u64 (h:Int) 127=((h % 128:Nat):Int):=by
 have:=bits_and_u64_nat h 127 hh (by decide);rw [show h &&& 127=h % 128 from Gt 7 h] at this;exact this
theorem Vr (h:Nat) (hh:h<18446744073709551616) (w:World) :
 Calls Tryz.prog 145 #[.int .u64 (h:Int)] w λe w'=>e = .returned (.int .u8 ((h % 128:Nat):Int))/\w=w':=by
 have hb:=abT h hh;have hlt:h % 128<128:=Nat.mod_lt _ (by decide);have hw:IntKind.u8.wrap ((h % 128:Nat):Int)=((h % 128:Nat):Int):=by rw [IntKind.wrap_u8];omega
 generalize h % 128=q at *
 go_enter Tryz.func145,Tryz.ntmps145
 go_wp2;go_ret;exact ⟨rfl,rfl⟩
theorem Iu (q:Nat) (h:q<128):nN q=true:=by unfold nN;simp;omega
theorem abX (G o m k h:Nat) (s:Nat->ai) (x0 x1:Int) (hm:m<18446744073709551616) (hh:h<18446744073709551616) (hk:k<8) (hf:cK m (k:Int) false=0) (E:Nat->Addr) (w:World) (hg:GW w G o m s) (he:EC w E [1,5]) :
 Calls Tryz.prog 101 #[.agg #[.pointer (some ⟨G,o,none⟩)],.int .i64 (k:Int),.agg #[.int .u64 x0,.int .u64 x1,.int .u64 (h:Int)]] w λe w' =>
  e = .returned (.tuple #[.bool (ln m k == 254),.nilIface])/\GW w' G o (fB m k (h % 128)) (eY s k ⟨x0,x1,h⟩)/\iU G o w w':=by
 have FE:=aa (λw' (hb:Below w.heap.size w w')=>mh G o m s hm k false E w' (hg.below hb hg.lt) (he.below hb));rw [hf] at FE;simp only [fG] at FE;have HG:=aa hg;have hl:=hg.lt;have c0:=hg.word;have H2:=aa (Vr h hh);have hq:=Nat.mod_lt h (show 0<128 by decide);have MK:=aa (λw' hw=>Cf G o m k (h % 128) (eY s k ⟨x0,x1,h⟩) hm hk (by omega) (Iu _ hq) w' hw);have GT:=aa (Q5 m k hm hk);have hb:(((ln m k:Nat):Int) == 254)=(ln m k == 254):=by rw [Bool.eq_iff_iff];simp;omega
 obtain ⟨wb,hwb⟩:∃b,b=(ln m k == 254):=⟨_,rfl⟩
 rw [<-hwb] at hb ⊢;clear hwb;generalize ln m k=l at *
 generalize h % 128=q at *
 have hfw:=hg.frozen;obtain ⟨s0,s1,s2⟩:=hg.slot k hk;clear hg he hf;go_enter Tryz.func101,Tryz.ntmps101
 go_upto_region 5 with (first
  | (go_at_call 147;refine (FE.out _ (by go_grown)).mono ?_;rintro e w1 ⟨rfl,hb1⟩;have hB1:Below w.heap.size w w1:=(by (exact Below.trans (by go_grown) (hb1.mono (by simp <;> omega))));have hcG:=λ(o:Nat)=>hb1.cell (p:=⟨G,o,none⟩) (by ((simp <;> omega)));have QP:=λ(o:Nat)=>hb1.frozen (p:=⟨G,o,none⟩) (by ((simp <;> omega)));have hzG:G<w1.heap.size:=bM (by ((simp <;> omega))) hb1.size;have dL:=λ(o:Nat)=>hb1.cell (p:=⟨w.heap.size,o,none⟩) (by ((simp <;> omega)));have dK:=λ(o:Nat)=>hb1.frozen (p:=⟨w.heap.size,o,none⟩) (by ((simp <;> omega)));have dh:w.heap.size<w1.heap.size:=bM (by ((simp <;> omega))) hb1.size;have eH:=λ(o:Nat)=>hb1.cell (p:=⟨w.heap.size+1,o,none⟩) (by ((simp <;> omega)));have eG:=λ(o:Nat)=>hb1.frozen (p:=⟨w.heap.size+1,o,none⟩) (by ((simp <;> omega)));have eF:w.heap.size+1<w1.heap.size:=bM (by ((simp <;> omega))) hb1.size)
  | (go_at_call 148;refine (GT.out _).mono ?_;rintro e w' ⟨rfl,rfl⟩))
 have HG1:=aa (HG.out.below hB1 hl);have hP1:af w1 w.heap.size 96 #[.pointer (some ⟨G,o,none⟩)]:=af.below ((af.new w _ _).alloc _) hb1 (by simp <;> omega);have hP2:af w1 (w.heap.size+1) 46 #[.int .u64 x0,.int .u64 x1,.int .u64 (h:Int)]:=af.below (af.aF (by simp)) hb1 (by simp);have hk8:(k:Int)<8:=by omega
 refine ag (λ_=>False) #[⟨0,0,2^24,8,0⟩,⟨1,1,2^25,2^24,1⟩,⟨0,0,2^26,2,0⟩,⟨0,0,2^27,32,1⟩,⟨2,3,2^28,2^25,0⟩,⟨16,19,2^29,2^28,0⟩,⟨47,63,2^30,(2^26+2^29),0⟩,⟨79,127,0,(2^27+2^30),3⟩] 10 [(0,0),(1,1),(2,0),(3,1),(4,0),(5,0),(6,0),(7,3)] (by kernel_rfl) (by kernel_rfl) (by kernel_rfl) (by kernel_rfl) (by kernel_rfl) (by kernel_rfl) (λc a d v w h=>by cases d <;> exact h) ?_;refine aj ?_;refine bW Tryz.underlying94 ?_
 try refine aC ?_;refine aj ?_
 refine jR [_,_,_] Tryz.underlying46 ?_
 try refine aC ?_;refine aj ?_;refine aj ?_;refine aj ?_
 refine fA λK hK=>?_;go_wp2_with (fail);refine hK.out _ _ ?_;clear hK K
 try refine aC ?_
 refine aD ?_;go_upto_region 6 with (fail)
 refine bG (λwE hE=>?_);have HGE:=aa (show GW wE G o m (eY s k ⟨x0,x1,h⟩) by rw [hE];exact HG1.out.drew.setSlot k hk ⟨x0,x1,h⟩);have q1:af wE w.heap.size 96 #[.pointer (some ⟨G,o,none⟩)]:=by rw [hE];exact ((hP1.drew.other (by omega) _ _).other (by omega) _ _).other (by omega) _ _
 have q2:af wE (w.heap.size+1) 46 #[.int .u64 x0,.int .u64 x1,.int .u64 (h:Int)]:=by rw [hE];exact ((hP2.drew.other (by omega) _ _).other (by omega) _ _).other (by omega) _ _
 have hCE:iU G o w wE:=by rw [hE];exact ((((iU.of_below hB1).drew).set1 _ _ (by omega)).set1 _ _ (by omega)).set1 _ _ (by omega)
 have n1:¬w.heap.size=G:=by omega
 have n2:¬w.heap.size+1=G:=by omega
 have d0:=q1.cell 0;have d2:=q2.cell 2;have l1:=q1.lt;have l2:=q2.lt;clear hE hP1 hP2;refine ag (λb=>b=G) #[⟨0,0,2^31,8,1⟩,⟨0,0,2^32,2,0⟩,⟨0,0,2^33,32,0⟩,⟨4,4,2^34,2^33,1⟩,⟨8,12,2^35,2^34,2⟩,⟨19,31,2^36,(2^31+2^32+2^35),3⟩] 9 [(0,1),(1,0),(2,0),(3,1),(4,2),(5,3)] (by kernel_rfl) (by kernel_rfl) (by kernel_rfl) (by kernel_rfl) (by kernel_rfl) (by kernel_rfl) (λc a d v w h=>by cases d <;> exact h) ?_;refine jR [_] Tryz.underlying96 ?_
 try refine aC ?_;refine aj ?_;refine aj ?_
 refine bW Tryz.underlying38 ?_
 try refine aC ?_
 refine iK λK hK=>?_;go_wp2_with ((go_at_call 145;refine (H2.out _).mono ?_;rintro e w' ⟨rfl,rfl⟩));refine iX hK (h:=?_);clear hK K
 try refine aC ?_
 refine fA λK hK=>?_;go_wp2_with ((go_at_call 149;refine (MK.out _ HGE.out.drew).mono ?_;rintro e w3 ⟨rfl,h3,c3⟩;have H3:=aa h3;clear h3));refine hK.out _ _ ?_;clear hK K
 try refine aC ?_
 refine aD ?_;go_wp2;go_ret2;exact ⟨rfl,H3.out,hCE.drew.trans c3⟩
theorem abU (G o m k:Nat) (s:Nat->ai) (v:Int) (hm:m<18446744073709551616) (hk:k<8) (hf:cK m (k:Int) true=0) (E:Nat->Addr) (w:World) (hg:GW w G o m s) (he:EC w E [1,5]) :
 Calls Tryz.prog 99 #[.agg #[.pointer (some ⟨G,o,none⟩)],.int .i64 (k:Int),.int .u64 v] w λe w' =>
  e = .returned .nilIface/\GW w' G o m (eY s k { s k with val:=v})/\iU G o w w':=by
 have FE:=aa (λw' (hb:Below w.heap.size w w')=>mh G o m s hm k true E w' (hg.below hb hg.lt) (he.below hb));rw [hf] at FE;simp only [fG] at FE;have HG:=aa hg;have hl:=hg.lt;have hfw:=hg.frozen;obtain ⟨s0,s1,s2⟩:=hg.slot k hk;have hk8:(k:Int)<8:=by omega
 clear hg he hf;go_enter Tryz.func99,Tryz.ntmps99
 go_wp2_with (go_at_call 147;refine (FE.out _ (by go_grown)).mono ?_;rintro e w1 ⟨rfl,hb1⟩;have hB1:Below w.heap.size w w1:=(by (exact Below.trans (by go_grown) (hb1.mono (by simp <;> omega))));have hcG:=λ(o:Nat)=>hb1.cell (p:=⟨G,o,none⟩) (by ((simp <;> omega)));have QP:=λ(o:Nat)=>hb1.frozen (p:=⟨G,o,none⟩) (by ((simp <;> omega)));have hzG:G<w1.heap.size:=bM (by ((simp <;> omega))) hb1.size;have dL:=λ(o:Nat)=>hb1.cell (p:=⟨w.heap.size,o,none⟩) (by ((simp <;> omega)));have dK:=λ(o:Nat)=>hb1.frozen (p:=⟨w.heap.size,o,none⟩) (by ((simp <;> omega)));have dh:w.heap.size<w1.heap.size:=bM (by ((simp <;> omega))) hb1.size)
 go_ret;exact ⟨rfl,(HG.out.below hB1 hl).Nk k hk v,(iU.of_below hB1).set1 _ _ (by omega)⟩
def dB (m:Nat):Nat:=if bR m=true then 128 else 254
theorem SH (G o m k:Nat) (s:Nat->ai) (hm:m<18446744073709551616) (hk:k<8) (hf:cK m (k:Int) true=0) (E:Nat->Addr) (w:World) (hg:GW w G o m s) (he:EC w E [1,5]) :
 Calls Tryz.prog 173 #[.agg #[.pointer (some ⟨G,o,none⟩)],.int .i64 (k:Int)] w λe w' =>
  e = .returned (.tuple #[.bool (!bR m),.nilIface])/\GW w' G o (fB m k (dB m)) (eY s k ai.zero)/\iU G o w w':=by
 by_cases ho:bR m=true
 . rw [ho];show Calls _ _ _ _ λe w'=>e = .returned (.tuple #[.bool false,.nilIface])/\_
   have FE:=aa (λw' (hb:Below w.heap.size w w')=>mh G o m s hm k true E w' (hg.below hb hg.lt) (he.below hb));rw [hf] at FE;simp only [fG] at FE;have OP:=aa (λw' (hb:Below w.heap.size w w')=>lH G o m s hm w' (hg.below hb hg.lt));have MK:=aa (λw' hw=>Cf G o m k (dB m) (eY s k ai.zero) hm hk (by unfold dB;split <;> decide) (by unfold dB;split <;> decide) w' hw);rw [show dB m=128 by unfold dB;rw [ho];rfl] at *
   rw [ho] at OP;have HG:=aa hg;have hl:=hg.lt;have hfw:=hg.frozen;obtain ⟨s0,s1,s2⟩:=hg.slot k hk;have hk8:(k:Int)<8:=by omega
   clear hg he hf ho;go_enter Tryz.func173,Tryz.ntmps173
   go_upto_region 6 with (first
    | (go_at_call 147;refine (FE.out _ (by go_grown)).mono ?_;rintro e w1 ⟨rfl,hb1⟩;have hB1:Below w.heap.size w w1:=(by (exact Below.trans (by go_grown) (hb1.mono (by simp <;> omega))));have hcG:=λ(o:Nat)=>hb1.cell (p:=⟨G,o,none⟩) (by ((simp <;> omega)));have QP:=λ(o:Nat)=>hb1.frozen (p:=⟨G,o,none⟩) (by ((simp <;> omega)));have hzG:G<w1.heap.size:=bM (by ((simp <;> omega))) hb1.size;have dL:=λ(o:Nat)=>hb1.cell (p:=⟨w.heap.size,o,none⟩) (by ((simp <;> omega)));have dK:=λ(o:Nat)=>hb1.frozen (p:=⟨w.heap.size,o,none⟩) (by ((simp <;> omega)));have dh:w.heap.size<w1.heap.size:=bM (by ((simp <;> omega))) hb1.size)
    | (go_at_call 97;refine (OP.out _ hB1).mono ?_;rintro e w2 ⟨rfl,hb2⟩;have hB1:Below w.heap.size w w2:=(by exact hB1.trans (hb2.mono hB1.size));have hcG:=λ(o:Nat)=>hb2.cell (p:=⟨G,o,none⟩) (by assumption);have QP:=λ(o:Nat)=>hb2.frozen (p:=⟨G,o,none⟩) (by assumption);have hzG:G<w2.heap.size:=bM (by assumption) hb2.size;have dL:=λ(o:Nat)=>hb2.cell (p:=⟨w.heap.size,o,none⟩) (by assumption);have dK:=λ(o:Nat)=>hb2.frozen (p:=⟨w.heap.size,o,none⟩) (by assumption);have dh:w.heap.size<w2.heap.size:=bM (by assumption) hb2.size))
   refine bG (λwE hE=>?_);have hp1:af w2 w.heap.size 96 #[.pointer (some ⟨G,o,none⟩)]:=af.below (af.below (af.new w _ _) hb1 (by simp)) hb2 (by have:=hb1.size;simp at this;omega);have HGE:=aa (show GW wE G o m (eY s k ai.zero) by rw [hE];exact (HG.out.below hB1 hl).setSlot k hk ai.zero);have q1:af wE w.heap.size 96 #[.pointer (some ⟨G,o,none⟩)]:=by rw [hE];exact ((hp1.other (by omega) _ _).other (by omega) _ _).other (by omega) _ _
   have hCE:iU G o w wE:=by rw [hE];exact (((iU.of_below hB1).set1 _ _ (by omega)).set1 _ _ (by omega)).set1 _ _ (by omega)
   have d0:=q1.cell 0;have l1:=q1.lt;clear hE hp1
   go_wp2_with (go_at_call 149;refine (MK.out _ HGE.out).mono ?_;rintro e w3 ⟨rfl,h3,c3⟩;have H3:=aa h3;clear h3)
   go_ret2;exact ⟨rfl,H3.out,hCE.trans c3⟩
 . replace ho:bR m=false:=by simpa using ho
   rw [ho];show Calls _ _ _ _ λe w'=>e = .returned (.tuple #[.bool true,.nilIface])/\_
   have FE:=aa (λw' (hb:Below w.heap.size w w')=>mh G o m s hm k true E w' (hg.below hb hg.lt) (he.below hb));rw [hf] at FE;simp only [fG] at FE;have OP:=aa (λw' (hb:Below w.heap.size w w')=>lH G o m s hm w' (hg.below hb hg.lt));have MK:=aa (λw' hw=>Cf G o m k (dB m) (eY s k ai.zero) hm hk (by unfold dB;split <;> decide) (by unfold dB;split <;> decide) w' hw);rw [show dB m=254 by unfold dB;rw [ho];rfl] at *
   rw [ho] at OP;have HG:=aa hg;have hl:=hg.lt;have hfw:=hg.frozen;obtain ⟨s0,s1,s2⟩:=hg.slot k hk;have hk8:(k:Int)<8:=by omega
   clear hg he hf ho;go_enter Tryz.func173,Tryz.ntmps173
   go_upto_region 6 with (first
    | (go_at_call 147;refine (FE.out _ (by go_grown)).mono ?_;rintro e w1 ⟨rfl,hb1⟩;have hB1:Below w.heap.size w w1:=(by (exact Below.trans (by go_grown) (hb1.mono (by simp <;> omega))));have hcG:=λ(o:Nat)=>hb1.cell (p:=⟨G,o,none⟩) (by ((simp <;> omega)));have QP:=λ(o:Nat)=>hb1.frozen (p:=⟨G,o,none⟩) (by ((simp <;> omega)));have hzG:G<w1.heap.size:=bM (by ((simp <;> omega))) hb1.size;have dL:=λ(o:Nat)=>hb1.cell (p:=⟨w.heap.size,o,none⟩) (by ((simp <;> omega)));have dK:=λ(o:Nat)=>hb1.frozen (p:=⟨w.heap.size,o,none⟩) (by ((simp <;> omega)));have dh:w.heap.size<w1.heap.size:=bM (by ((simp <;> omega))) hb1.size)
    | (go_at_call 97;refine (OP.out _ hB1).mono ?_;rintro e w2 ⟨rfl,hb2⟩;have hB1:Below w.heap.size w w2:=(by exact hB1.trans (hb2.mono hB1.size));have hcG:=λ(o:Nat)=>hb2.cell (p:=⟨G,o,none⟩) (by assumption);have QP:=λ(o:Nat)=>hb2.frozen (p:=⟨G,o,none⟩) (by assumption);have hzG:G<w2.heap.size:=bM (by assumption) hb2.size;have dL:=λ(o:Nat)=>hb2.cell (p:=⟨w.heap.size,o,none⟩) (by assumption);have dK:=λ(o:Nat)=>hb2.frozen (p:=⟨w.heap.size,o,none⟩) (by assumption);have dh:w.heap.size<w2.heap.size:=bM (by assumption) hb2.size))
   refine bG (λwE hE=>?_);have hp1:af w2 w.heap.size 96 #[.pointer (some ⟨G,o,none⟩)]:=af.below (af.below (af.new w _ _) hb1 (by simp)) hb2 (by have:=hb1.size;simp at this;omega);have HGE:=aa (show GW wE G o m (eY s k ai.zero) by rw [hE];exact (HG.out.below hB1 hl).setSlot k hk ai.zero);have q1:af wE w.heap.size 96 #[.pointer (some ⟨G,o,none⟩)]:=by rw [hE];exact ((hp1.other (by omega) _ _).other (by omega) _ _).other (by omega) _ _
   have hCE:iU G o w wE:=by rw [hE];exact (((iU.of_below hB1).set1 _ _ (by omega)).set1 _ _ (by omega)).set1 _ _ (by omega)
   have d0:=q1.cell 0;have l1:=q1.lt;clear hE hp1
   go_wp2_with (go_at_call 149;refine (MK.out _ HGE.out).mono ?_;rintro e w3 ⟨rfl,h3,c3⟩;have H3:=aa h3;clear h3)
   go_ret2;exact ⟨rfl,H3.out,hCE.trans c3⟩
theorem Og (G o:Nat) (x y z:Int) (w:World) :
 Calls Tryz.prog 88 #[.pointer (some ⟨G,o,none⟩),.agg #[.pointer none,.int .i64 x,.int .i64 y,.int .i64 z]] w λe w'=>e = .returned (Qx G o)/\Below w.heap.size w w':=by
 unfold Qx;go_enter Tryz.func88,Tryz.ntmps88
 go_wp2_with (go_at_call 135;refine (Na _ _ _ _).mono ?_;rintro e w1 ⟨rfl,hb1⟩;have hB1:Below w.heap.size w w1:=(by (exact Below.trans (by go_grown) (hb1.mono (by simp <;> omega))));have dL:=λ(o:Nat)=>hb1.cell (p:=⟨w.heap.size,o,none⟩) (by ((simp <;> omega)));have dK:=λ(o:Nat)=>hb1.frozen (p:=⟨w.heap.size,o,none⟩) (by ((simp <;> omega)));have dh:w.heap.size<w1.heap.size:=bM (by ((simp <;> omega))) hb1.size;have eH:=λ(o:Nat)=>hb1.cell (p:=⟨w.heap.size+1,o,none⟩) (by ((simp <;> omega)));have eG:=λ(o:Nat)=>hb1.frozen (p:=⟨w.heap.size+1,o,none⟩) (by ((simp <;> omega)));have eF:w.heap.size+1<w1.heap.size:=bM (by ((simp <;> omega))) hb1.size)
 have Kb:af w1 (w.heap.size+1) 96 #[.pointer none]:=af.below (af.aF (by simp)) hb1 (by simp);have r0:=(Kb.set 0 (.pointer (some ⟨G,o,none⟩))).cell 0;simp only [List.setIfInBounds_toArray,List.set_cons_zero,List.set_cons_succ,List.getElem?_toArray,List.getElem?_cons_zero,List.getElem?_cons_succ] at r0;exact bodyPost_ret (v := .agg #[.pointer (some ⟨G,o,none⟩)]) (by simp [results,Tryz.results88,go_sem,r0]) rfl ⟨rfl,hB1.setCell (p:=⟨w.heap.size+1,0,none⟩) (by simp) _⟩
theorem abY (G o M:Nat) (mt:aG) (x y z:Int) (w:World) (hM:af w M 37 mt.cells) :
 Calls Tryz.prog 88 #[.pointer (some ⟨G,o,none⟩),.agg #[.pointer (some ⟨M,0,none⟩),.int .i64 x,.int .i64 y,.int .i64 z]] w λe w'=>e = .returned (Qx G o)/\af w' M 37 (mt.add x y z).cells/\ah (λb=>b=M) w w':=by
 unfold Qx;have VS:=aa (λw' hb=>Rq mt x y z M 37 w' hb);have HM:=aa hM;have hl:=hM.lt;generalize mt.add x y z=jX at *
 clear hM;go_enter Tryz.func88,Tryz.ntmps88
 go_wp2_with (go_at_call 135;refine (VS.out _ ((HM.out.alloc _).alloc _)).mono ?_;rintro e w1 ⟨rfl,h1,c1⟩;have H1:=aa h1;have Kb:af w1 (w.heap.size+1) 96 #[.pointer none]:=af.aA (af.aF (by simp)) c1 (by omega);have hRz:=Kb.lt;have hRf:=Kb.frozen;have hRc:=Kb.cell 0;clear h1)
 have r0:=(Kb.set 0 (.pointer (some ⟨G,o,none⟩))).cell 0;simp only [List.setIfInBounds_toArray,List.set_cons_zero,List.set_cons_succ,List.getElem?_toArray,List.getElem?_cons_zero,List.getElem?_cons_succ] at r0;exact bodyPost_ret (v := .agg #[.pointer (some ⟨G,o,none⟩)]) (by simp [results,Tryz.results88,go_sem,r0]) rfl ⟨rfl,H1.out.other (by omega) _ _,((ah.of_below (by go_grown)).trans c1).setCell (.inr (by simp)) _⟩
def kZ (A cs:Array Value) (o:Nat):Array Value:=(A.toList.take o ++ cs.toList ++ A.toList.drop (o+cs.size)).toArray
theorem Jl (A cs:Array Value) (o:Nat) (h:o+cs.size<=A.size):(kZ A cs o).size=A.size:=by
 simp [kZ];omega
theorem Ng (A cs:Array Value) (o j:Nat) (h:o+cs.size<=A.size) (hj:j<cs.size):(kZ A cs o)[o+j]?=cs[j]?:=by
 have h1:(A.toList.take o).length=o:=by simp;omega
 have h2:j<cs.toList.length:=by simpa using hj
 unfold kZ;rw [List.getElem?_toArray,List.append_assoc,List.getElem?_append_right (by omega),h1,Nat.add_sub_cancel_left,List.getElem?_append_left h2,Array.getElem?_toList]
theorem Kq (A cs:Array Value) (o j:Nat) (h:o+cs.size<=A.size) (hj:j<o\/o+cs.size<=j):(kZ A cs o)[j]?=A[j]?:=by
 have h1:(A.toList.take o).length=o:=by simp;omega
 have h2:cs.toList.length=cs.size:=by simp
 unfold kZ;rw [List.getElem?_toArray];rcases hj with hj|hj
 . rw [List.append_assoc,List.getElem?_append_left (by omega),List.getElem?_take_of_lt hj,Array.getElem?_toList]
 . rw [List.getElem?_append_right (by simp;omega),List.getElem?_drop,<-Array.getElem?_toList]
   congr 1
   simp;omega
theorem JS {P:Program} {w:World} {a:Oper} {ρ:Operand->Value} {t:TypeId} {x y:Operand} (hop:a.op = .store t x y) {g off:Nat} {cs cur:Array Value} {T:TypeId} (hx:ρ x = .pointer (some ⟨g,off,none⟩)) (hy:ρ y = .agg cs)
 (hg:af w g T cur) (hs:off+cs.size<=cur.size) (hi:(sizeOf t).run P w = .ok cs.size w) (h1:∀v∈cs.toList,v.oneCell'=true) :
 (execOp ρ a).run P w = .ok .skip (w.setRow g (kZ cur cs off)):=by
 have h:=run_storeCells_at P g off T cs.toList 0 cur w hg (by simpa using hs) h1;simp only [Nat.add_zero,Array.length_toList] at h;simp [execOp,hop,hx,hy,Instr.storeAt,Instr.sureAddr,storeVar,Sem.run_bind,hi,Value.cells,h,Result.andThen,kZ]
theorem iU.setRow {G o:Nat} {a w:World} (h:iU G o a w) {T:TypeId} {A cs:Array Value} (hA:af w G T A) (hc:cs.size=25) (ho:o+25<=A.size):iU G o a (w.setRow G (kZ A cs o)) :=
 ⟨h.aA.trans ⟨rfl,rfl,rfl,by simp [World.setRow],λk _ hk=>setRow_other w G _ hk⟩,λT0 A0 h0=>by
  obtain ⟨A1,h1,s1,r1⟩:=h.rest T0 A0 h0;have e:some (Obj.cells A1 T0 (0,0))=some (Obj.cells A T (0,0)):=(show w.heap[G]?=_ from h1).symm.trans hA;cases e
  exact ⟨_,af.setRow h1 _,by rw [Jl _ _ _ (by omega),s1],λj hj=>by rw [Kq _ _ _ _ (by omega) (by omega),r1 j hj]⟩⟩
theorem RO {P:Program} {o:Oper} {a:Act} {w w':World} {K:Act->World->Prop} {Q:Exit->Act->World->Prop} (hrun:(execOp a.eval o).run P w = .ok .skip w') (h:K (a.put o.dst undef) w'):o.wp P a w K Q:=by
 unfold Oper.wp;rw [hrun];exact h
theorem EX (G o m:Nat) (s:Nat->ai) (w:World) (hg:GW w G o m s) :
 Calls Tryz.prog 89 #[.agg #[.pointer (some ⟨G,o,none⟩)]] w λe w'=>e = .returned (.tuple #[])/\GW w' G o (rep 128) (λ_=>ai.zero)/\iU G o w w':=by
 obtain ⟨T,A,hA,hk⟩:=hg;have ho:o+25<=A.size:=by have:=(Array.getElem?_eq_some_iff.1 (hk 24 (by decide))).1;omega
 have HG:=aa hA;have hl:=hA.lt;have hfw:=λj=>hA.frozen j;clear hA hk;go_enter Tryz.func89,Tryz.ntmps89
 go_wp2;refine ag (λ_=>False) #[⟨0,0,4,2,0⟩,⟨1,1,8,4,1⟩,⟨0,0,16,0,2⟩,⟨4,4,32,16,0⟩,⟨8,12,64,32,1⟩,⟨31,31,128,8,0⟩,⟨63,63,0,192,3⟩] 18 [(0,0),(1,1),(2,2),(3,0),(4,1),(5,0),(6,3)] (by kernel_rfl) (by kernel_rfl) (by kernel_rfl) (by kernel_rfl) (by kernel_rfl) (by kernel_rfl) (λc a d v w h=>by cases d <;> exact h) ?_;refine aj ?_;refine bW Tryz.underlying94 ?_
 try refine aC ?_
 refine iK λK hK=>?_;go_wp2_with (go_at_call 136;refine (Vs _).mono ?_;rintro e w1 ⟨rfl,h1,hb1⟩;have hr:=Oe (B:=w.heap.size+1) (by simpa using h1);clear h1;have hG1:=aa (HG.out.below (Below.trans (show Below w.heap.size w _ from by go_grown) (hb1.mono (by simp))) hl);have hB1:Below w.heap.size w w1:=(by (exact Below.trans (by go_grown) (hb1.mono (by simp <;> omega))));have hcG:=λ(o:Nat)=>hb1.cell (p:=⟨G,o,none⟩) (by ((simp <;> omega)));have QP:=λ(o:Nat)=>hb1.frozen (p:=⟨G,o,none⟩) (by ((simp <;> omega)));have hzG:G<w1.heap.size:=bM (by ((simp <;> omega))) hb1.size;have dL:=λ(o:Nat)=>hb1.cell (p:=⟨w.heap.size,o,none⟩) (by ((simp <;> omega)));have dK:=λ(o:Nat)=>hb1.frozen (p:=⟨w.heap.size,o,none⟩) (by ((simp <;> omega)));have dh:w.heap.size<w1.heap.size:=bM (by ((simp <;> omega))) hb1.size);refine iX hK (h:=?_);clear hK K
 try refine aC ?_;refine aj ?_
 refine jR [_,_,_,_,_,_,_,_,_,_,_,_,_,_,_,_,_,_,_,_,_,_,_,_,_] Tryz.underlying147 ?_
 try refine aC ?_;refine aj ?_
 refine fA λK hK=>?_;refine RO (JS (t:=147) (cs := #[.int .u64 ((rep 128:Nat):Int),.int .u64 0,.int .u64 0,.int .u64 0,.int .u64 0,.int .u64 0,.int .u64 0,.int .u64 0,.int .u64 0,.int .u64 0,.int .u64 0,.int .u64 0,.int .u64 0,.int .u64 0,.int .u64 0,.int .u64 0,.int .u64 0,.int .u64 0,.int .u64 0,.int .u64 0,.int .u64 0,.int .u64 0,.int .u64 0,.int .u64 0,.int .u64 0]) rfl rfl rfl hG1.out ho (Tryz.sizeOf147 _) (by simp [Value.oneCell'])) ?_;refine hK.out _ _ ?_;clear hK K
 try refine aC ?_
 refine aD ?_;go_wp2
 ((try simp only [Exit.inBlock,Exit.then]);refine bodyPost_end (results_none rfl _ _ _) rfl ?_)
 exact ⟨rfl,⟨_,_,af.setRow hG1.out _,λj hj=>by rw [Ng _ _ _ _ ho hj,<-sD];exact gV _ _ _ hj⟩,(iU.of_below hB1).setRow hG1.out rfl ho⟩
end Go.Proofs.YtolhmibejhldkaaGreatDoor
namespace Go.Proofs.YtolhmibejhldkaaGreatDoor
open Go.RowKit Go.Proofs
theorem JP {f g:Nat->Bool} (h:∀i,i<8->f i=g i):gN f=gN g:=by
 have h0:=h 0 (by decide);have h1:=h 1 (by decide);have h2:=h 2 (by decide);have h3:=h 3 (by decide);have h4:=h 4 (by decide);have h5:=h 5 (by decide);have h6:=h 6 (by decide);have h7:=h 7 (by decide);unfold gN;simp only [ku,h0,h1,h2,h3,h4,h5,h6,h7]
def dQ (m:Nat):Int:=match gN (fF m) with|none => -1|some j=>(j:Int)
theorem SL (m:Nat) (hm:m<18446744073709551616) (w:World) (hT:iB w):Calls Tryz.prog 141 #[.int .u64 (m:Int)] w λe w'=>e = .returned (.int .i64 (dQ m))/\w=w':=by
 unfold dQ;cases h:gN (fF m) with
 | none=>exact Oj m hm h w
 | some j=>exact Fb m j hm h w hT
theorem SI (m:Nat):dQ (bQ (fF m))=dQ m:=by
 unfold dQ;rw [JP (lX (fF m))]
theorem Ii (G o m:Nat) (s:Nat->ai) (hm:m<18446744073709551616) (w:World) (h:GW w G o m s) (hT:iB w) :
 Calls Tryz.prog 95 #[.agg #[.pointer (some ⟨G,o,none⟩)]] w λe w'=>e = .returned (.int .i64 (dQ m))/\Below w.heap.size w w':=by
 have c0:=h.word;have hl:=h.lt;have E:=aa (Qk m hm);have C:=λw' (hb:Below w.heap.size w w')=>SL (bQ (fF m)) (lW _) w' (hT.below hb);rw [SI] at C;replace C:=aa C;generalize bQ (fF m)=q at *
 generalize dQ m=ob at *
 clear h hT;go_enter Tryz.func95,Tryz.ntmps95
 go_wp2_with (first
  | (go_at_call 142;refine (E.out _).mono ?_;rintro e w' ⟨rfl,rfl⟩)
  | (go_at_call 141;refine (C.out _ (by go_grown)).mono ?_;rintro e w' ⟨rfl,rfl⟩))
 go_ret;exact ⟨rfl,by go_grown⟩
open Go.RowKit
structure Moves (M M':Nat->Prop) (A B:World):Prop where
 size:A.heap.size<=B.heap.size
 same:∀b,b<A.heap.size->¬M b->B.heap[b]?=A.heap[b]?
 grow:∀b,M' b->M b\/A.heap.size<=b
theorem Moves.refl (M:Nat->Prop) (A:World):Moves M M A A:=⟨aL _,λ_ _ _=>rfl,λ_ h => .inl h⟩
theorem Moves.trans {M M' M'':Nat->Prop} {A B C:World} (h:Moves M M' A B) (k:Moves M' M'' B C):Moves M M'' A C :=
 ⟨qH h.size k.size,λb hb hM=>(k.same b (bM hb h.size) (λh'=>(h.grow b h').elim hM (λh''=>by omega))).trans (h.same b hb hM),
  λb hb=>(k.grow b hb).elim (λh'=>h.grow b h') (λh' => .inr (qH h.size h'))⟩
theorem Dh {P:Program} (w:World) (base:Nat) (t ty e:TypeId) (i:TypeInfo) (z:Value) (size bytes:Nat) (ht:P.underlying t=some (.slice e)) (hi:P.info? e=some i) (hz:i.zero=some z)
 (hsize:i.size=size) (hby:i.bytes=bytes) (hzs:z.cells.size=size) (hsz:0<size)
 (v:Value) (n:Nat) (xs:List Value) (hown:w.ownsRow base e size v n xs)
 (a:Addr) (m c:Nat) (news:List Value) (hl:news.length=m*size) (hnews:∀j u,news[j]?=some u->w.cell? (a.add j)=some u) (h1:∀u∈news,u.oneCell'=true)
 (h63:n+m<=maxLen) (hbytes:(n+m)*bytes<=140737488355328) (hbase:base<=w.heap.size) (hm:0<m) :
 ∃v' w',(Builtin.append_ #[t,t] ty #[v,.slice (some a) m c]).run P w = .ok v' w'/\w'.ownsRow base e size v' (n+m) (xs ++ news)/\w.grownBy w' v.ownBlock/\
  (v'.ownBlock=v.ownBlock\/v'.ownBlock=some w.heap.size):=by
 obtain ⟨v',w',hr,h2,h3,h4⟩:=run_append_own (P:=P) w base t ty e i z size bytes ht hi hz hsize hby hzs hsz v n xs hown a m c news hl hnews h1 h63 hbytes hbase;refine ⟨v',w',hr,h2,h3,?_⟩;subst hsize;subst hby;have hs:n+m<=9223372036854775807:=by simp only [maxLen] at h63;omega
 rcases hown.2 with ⟨rfl,rfl⟩ | ⟨g,cap,cur,rfl,hbg,hg,hnc,hcm,hcs,htake⟩
 . have hr2:=run_append_nil (P:=P) w t ty e i z ht hi hz a m c news hl hnews hm (by omega) (by have hb:=hbytes;simp only [Nat.zero_add] at hb;omega);rw [hr2] at hr;cases hr
   exact .inr rfl
 . by_cases hroom:n+m<=cap
   . have hfit:n*i.size+news.length<=cur.size:=by rw [hl,hcs,<-Nat.add_mul];exact Nat.mul_le_mul_right _ hroom
     have hr2:=run_append_room (P:=P) w t ty e i ht hi g n cap cur hg a m c news hl hnews h1 hroom hfit;rw [hr2] at hr;cases hr
     exact .inl rfl
   . have hr2:=run_append_grow (P:=P) w t ty e i z ht hi hz ⟨g,0,none⟩ n cap xs hown.1 (hown.cells (g:=g) rfl) a m c news hl hnews (by omega) (by omega) (growslice_fits (by omega) hbytes);rw [hr2] at hr;cases hr
     exact .inr rfl
open Go.RowKit
section
variable {P:Program} {ops:Array Oper} {Q:Exit->Act->World->Prop} {md:Region.Mode} {X:Nat->Prop} {l n:Nat}
theorem aW {f:FuncId} {args:Array Value} {w:World} {R:Ending->World->Prop} (h:Calls P f args w R):CallsIn (Fence.wide.inRound l) n P f args w R :=
 (callsIn_wide (n:=n)).2 h
theorem Jq {row:String} {args:Array Value} {w:World} {R:Value->World->Prop} (h:Rows P row args w R):RowsIn (Fence.wide.inRound l) n P row args w R :=
 λc cs _=>let ⟨v,w',r,s⟩:=h c cs;⟨v,w',r,stepsIn_wide.2 s⟩
theorem Jz {o:Oper} {a:Act} {w:World} {K:Act->World->Prop} (hd:∀c,o.op≠ .defer c) (h:o.wp P a w K Q):o.wpIn (Fence.wide.inRound l) n P a w K Q:=by
 refine ⟨λf _=>trivial,?_⟩;rw [Fence.inRound_round,Oper.semAt_some l _ _ hd];unfold Oper.wp at h;generalize (execOp a.eval o).run P w=r at *
 cases r with
 | ok x w' =>
  cases x with
  | enter f args=>exact ⟨λh=>by simp [Fence.wide] at h,aW h⟩
  | row row args=>exact ⟨λh=>by simp [Fence.wide] at h,Jq h⟩
  | round _ _ _ _ _=>exact (show False from h).elim
  | _=>exact h
 | halt x w'=>cases x <;> exact h
def Bd (ops:Array Oper):Bool:=ops.all λo=>match o.op with | .defer _=>false|_=>true
theorem JC (h:Bd ops=true) (j:Nat) (o:Oper) (ho:ops[j]?=some o):∀c,o.op≠ .defer c:=by
 intro c heq;have:=Array.all_eq_true_iff_forall_mem.1 h o (Array.mem_of_getElem? ho);simp [heq] at this
theorem M7 (hd:Bd ops=true) (hL:¬LetsOut Q) {i:Nat} {a:Act} {w:World} {K K':Act->World->Prop} (hK:∀a w,K a w->K' a w) (h:wpOp P ops Q i K a w) :
 wpOpIn (Fence.wide.inRound l) n P ops Q i K' a w:=by
 unfold wpOp at h;unfold wpOpIn;split
 . rename_i ho;simp only [ho] at h;exact hK _ _ h
 . rename_i o ho
   simp only [ho] at h;split
   . rename_i hw
     simp only [hw,if_true] at h;rcases h with h|h
     . exact Jz (JC hd i o ho) (Oper.wp_mono hK h)
     . exact (hL h.2).elim
   . rename_i hw
     simp only [hw] at h;exact ⟨λf _=>trivial,hK _ _ h⟩
theorem Cv (hd:Bd ops=true) (hL:¬LetsOut Q):∀ (fuel:Nat) (listed:Array Bool) (a:Act) (w:World),wpAny P md ops Q fuel listed a w->wpAnyIn (Fence.wide.inRound l) n P md ops Q fuel listed a w:=by
 intro fuel
 induction fuel with
 | zero=>exact λ_ _ _ h=>h
 | succ fuel ih=>exact λlisted a w h=>⟨h.1,λi hi=>M7 hd hL (λa w=>ih _ a w) (h.2 i hi)⟩
theorem gQ {id:Nat} {a:Act} {w:World} (X:Nat->Prop) (ns:Array iT) (loads:Nat) (pl:List (Nat×Nat)) (hm:P.follows .mixedOrders=true)
 (hn:jI .any ops ns=true) (hsel:Region.noSelect ops=true) (hlen:pl.length=ops.size) (hk:(pl.all λx=>(ns[x.1]?.map (·.kind)).getD x.2 == x.2)=true) (hp:BV ns loads (pl.map (·.1)) 0=true)
 (hQ:∀c (a:Act) d v w,Q (.panic c) (a.put d v) w->Q (.panic c) a w) (hd:Bd ops=true) (hL:¬LetsOut Q) (h:dJ P ops Q X pl a w.drew):(Code.region id ops true).wpIn (Fence.wide.inRound l) n P Q a w:=by
 refine wpIn_region_any hm (Cv hd hL _ _ _ _ ?_);rw [<-hlen];refine rO hn pl.length _ 0 a _ (λj hj=>?_) (ry hn hsel hQ pl 0 a w.drew (λj n _ h0=>by simp at h0) (λx hx n hxn=>?_) hp h)
 . rw [Array.getElem?_replicate];simp [hlen,hj]
 . have:=List.all_eq_true.1 hk x hx;simpa [hxn] using this
end
theorem ah.lL (X:Nat->Prop) (w:World) (o:Obj):ah X w.drew (w.alloc o).drew:=⟨rfl,rfl,rfl,by simp,λk hk _=>Below.heap_alloc w o k (by simpa using hk)⟩
theorem JN {w w':World} {r:Option Nat} (h:w.drew.grownBy w' r):w.grownBy w' r:=⟨h.os,h.tape,h.output,h.size,h.block⟩
attribute [local go_sem] Oper.semAt_some wide_depth round_depth wide_fn round_fn
def eP (s:Nat->ai) (key:Int) (l:List Nat):Int:=match l.find? (λn=>(s n).key == key) with|none => -1|some n=>(n:Int)
theorem SS (s:Nat->ai) (key:Int) (l:List Nat) (i:Nat) (hi:i<l.length) (h:(s l[i]).key=key) (hb:∀j (hj:j<i),(s (l[j]'(by omega))).key≠key):eP s key l=(l[i]:Int):=by
 unfold eP
 have:l.find? (λn=>(s n).key == key)=some l[i]:=by
  rw [List.find?_eq_some_iff_getElem];exact ⟨by simpa using h,i,hi,rfl,λj hj=>by simpa using hb j hj⟩
 rw [this]
theorem Om (s:Nat->ai) (key:Int) (l:List Nat) (h:∀j (hj:j<l.length),(s l[j]).key≠key):eP s key l = -1:=by
 unfold eP
 have:l.find? (λn=>(s n).key == key)=none:=by
  rw [List.find?_eq_none];intro x hx;obtain ⟨j,hj,rfl⟩:=List.getElem_of_mem hx;simpa using h j hj
 rw [this]
theorem qL (G o m h:Nat) (s:Nat->ai) (key:Int) (hm:m<18446744073709551616) (hh:h<18446744073709551616) (w:World) (hg:GW w G o m s) (hT:iB w) :
 Calls Tryz.prog 96 #[.agg #[.pointer (some ⟨G,o,none⟩)],.int .u64 key,.int .u64 (h:Int)] w λe w'=>e = .returned (.int .i64 (eP s key (aI (aU m (h % 128)))))/\Below w.heap.size w w':=by
 have HG:=aa hg;have HT:=aa hT;have hl:=hg.lt;have hl1:G<w.heap.size+1:=by omega
 have hl2:G<w.heap.size+1+1:=by omega
 have c0:=hg.word;have H2:=aa (Vr h hh);have hq:=Nat.mod_lt h (show 0<128 by decide);have MT:=aa (Qi m (h % 128) hm (by omega));have hmt:JD m (h % 128)=bQ (aU m (h % 128)):=by unfold JD;rw [if_pos hq]
 rw [hmt] at MT;have HQ:=aa (lW (aU m (h % 128)));have HF:=aa (lX (aU m (h % 128)));obtain ⟨f,hf⟩:=dC (aU m (h % 128));rw [<-hf] at MT HQ HF ⊢;generalize hQ:bQ f=Q at *
 generalize h % 128=q at *
 clear hmt;refine (callsIn_wide (n:=0)).1 ?_;refine callsIn_of_wp_marks Tryz.func96 rfl trivial ?_;simp only [Tryz.ntmps96,List.size_toArray,List.length_cons,List.length_nil,Nat.reduceAdd,Nat.reduceSub,Array.replicate_succ,Array.replicate_zero,List.push_toArray,List.append_toArray,List.nil_append,List.cons_append];refine wpIn_wide.2 ?_;clear hg hT;have HFE:=aa hf;have HQE:=aa hQ;clear hf hQ;go_wp2;refine wp_region_noPanic ?_;refine ag (λ_=>False) #[⟨0,0,256,8,0⟩,⟨1,1,512,256,1⟩,⟨2,3,1024,512,0⟩,⟨4,7,2048,1024,0⟩,⟨8,15,4096,2048,1⟩,⟨0,0,8192,4,0⟩,⟨32,32,2^14,8192,2⟩,⟨80,127,2^15,(2^12+2^14),3⟩,⟨128,255,2^16,2^15,3⟩] 18 [(0,0),(1,1),(2,0),(3,0),(4,1),(5,0),(6,2),(7,3),(8,3)] (by kernel_rfl) (by kernel_rfl) (by kernel_rfl) (by kernel_rfl) (by kernel_rfl) (by kernel_rfl) (λc a d v w h=>by cases d <;> exact h) ?_;refine aj ?_;refine bW Tryz.underlying94 ?_
 try refine aC ?_;refine aj ?_;refine aj ?_
 refine bW Tryz.underlying144 ?_
 try refine aC ?_;refine aj ?_
 refine iK λK hK=>?_;go_wp2_with ((go_at_call 145;refine (H2.out _).mono ?_;rintro e w' ⟨rfl,rfl⟩));refine iX hK (h:=?_);clear hK K
 try refine aC ?_
 refine fA λK hK=>?_;go_wp2_with ((go_at_call 144;refine (MT.out _).mono ?_;rintro e w' ⟨rfl,rfl⟩));refine hK.out _ _ ?_;clear hK K
 try refine aC ?_
 refine fA λK hK=>?_;go_wp2_with ((go_at_call 143;refine (Ic _ _).mono ?_;rintro e w' ⟨rfl,rfl⟩));refine hK.out _ _ ?_;clear hK K
 try refine aC ?_
 refine aD ?_;refine NoPanic.normal ?_;go_wp2;refine bG (λwL og=>?_);have q0:af wL w.heap.size 96 #[.pointer (some ⟨G,o,none⟩)]:=by rw [og];exact (((af.new w _ _).alloc _).alloc _).alloc _
 have q1:af wL (w.heap.size+1) 38 #[.int .u64 key]:=by rw [og];exact ((af.aF (by simp)).alloc _).alloc _
 have q2:af wL (w.heap.size+1+1) 3 #[.int .i64 0]:=by rw [og];exact (af.aF (by simp)).alloc _
 have q3:af wL (w.heap.size+1+1+1) 38 #[.int .u64 (Q:Int)]:=by rw [og];exact af.aF (by simp)
 have qB:Below w.heap.size w wL:=by rw [og];go_grown
 have qz:wL.heap.size=w.heap.size+1+1+1+1:=by rw [og];simp
 have hgv:=CY Q HQ.out (w.heap.size+1+1+1) wL (q3.cell 0) (HT.out.below qB);have hgl:16<w.heap.size:=qx _ _ (HT.out 0 (by decide));have hL:aI (fF Q)=aI f:=lh HF.out;have hLa:∀i,bT (fF Q) i=bT f i:=λi=>by unfold bT;rw [hL]
 simp only [hL,hLa] at hgv;have HGV:=aa hgv;clear og hgv hL hLa;refine (wpIn_wide (n:=0)).1 ?_
 refine rM rfl Br HGV.out (λb hb=>by rcases hb with rfl|rfl <;> omega) (λ_=>rfl)
  (λi W=>(af W w.heap.size 96 #[.pointer (some ⟨G,o,none⟩)]/\af W (w.heap.size+1) 38 #[.int .u64 key]/\af W (w.heap.size+1+1) 3 #[.int .i64 0]/\af W (w.heap.size+1+1+1) 38 #[.int .u64 (Q:Int)]/\(∀j,j<i->(s (bT f j)).key≠key))/\Below w.heap.size w W)
  (λc W=>(c = .ret/\af W (w.heap.size+1+1) 3 #[.int .i64 (eP s key (aI f))])/\Below w.heap.size w W)
  (OwnFrom.and (Own.from (Bb (mX _ _ _) (Bb (mX _ _ _) (Bb (mX _ _ _) (Bb (mX _ _ _) (KX _))))) _) (ownFrom_below (aL _) (by omega)))
  (OwnFrom.and (Own.from (Bb (KX _) (mX _ _ _)) _) (ownFrom_below (aL _) (by omega)))
  ⟨⟨q0,q1,q2,q3,λj hj=>by omega⟩,qB⟩
  (λT i a _=>a = { tmps:=(T.setIfInBounds 17 (.int .i64 ((bT f i:Nat):Int))).setIfInBounds 7 (.int .i64 ((bT f i:Nat):Int)),defers := []})
  ?assign (λ_ _ _ _ hs _ _=>hs) ?body ?done ?stop
 case assign =>
  intro l i W K hi hlt _ hK
  gi_wp2
  exact hK _ _ (KeepsFrom.refl _ _) (Same.refl _ _) hi rfl
 case body =>
  rintro l i a₁ W ⟨⟨p0,p1,p2,p3,hne⟩,hB⟩ hlt hsz rfl
  simp only [List.setIfInBounds_toArray,List.set_cons_succ,List.set_cons_zero];have hla:bT f i=(aI f)[i]:=by unfold bT;rw [List.getD_eq_getElem?_getD,List.getElem?_eq_getElem hlt];rfl
  have hx8:bT f i<8:=by rw [hla];exact (jl.1 (List.getElem_mem hlt)).1
  obtain ⟨s0,s1,s2⟩:=(HG.out.below hB hl).slot (bT f i) hx8;have e0:=p0.boxed.cell;have e1:=p1.boxed.cell;have e2:=p2.boxed.cell;have f2:=p2.boxed.frozen;have hx9:((bT f i:Nat):Int)<8:=by omega
  have HLA:=aa hla;have HNE:=aa hne;clear hla hne;by_cases hk:(s (bT f i)).key=key
  . have hkb:((s (bT f i)).key == key)=true:=by simpa using hk
    have HK:=aa hk;clear hk
    gi_wp2
    refine gQ (λ_=>False) #[⟨0,0,2^18,8,0⟩,⟨1,1,2^19,2^18,1⟩,⟨0,0,2^20,128,0⟩,⟨2,3,2^21,2^19,0⟩,⟨8,11,2^22,2^21,0⟩,⟨20,31,2^23,(2^20+2^22),0⟩,⟨32,63,2^24,2^23,0⟩,⟨64,127,2^25,2^24,1⟩,⟨0,0,2^26,16,1⟩,⟨384,511,2^27,(2^25+2^26),0⟩] 386 [(0,0),(1,1),(2,0),(3,0),(4,0),(5,0),(6,0),(7,1),(8,1),(9,0)] (by kernel_rfl) (by kernel_rfl) (by kernel_rfl) (by kernel_rfl) (by kernel_rfl) (by kernel_rfl) (λc a d v w h=>by cases d <;> exact h) (by kernel_rfl) (by rintro ⟨a,w,h⟩;exact h) ?_;refine aj ?_;refine bW Tryz.underlying94 ?_
    try refine aC ?_;refine aj ?_;refine aj ?_;refine aj ?_;refine aj ?_;refine aj ?_
    refine bW Tryz.underlying38 ?_
    try refine aC ?_
    refine bW Tryz.underlying38 ?_
    try refine aC ?_;refine aj ?_
    refine aD ?_
    gi_wp2
    refine ⟨((KeepsOthers.drew W).trans (KeepsOthers.setCell _ _ _)).from _,⟨rfl,?_⟩,hB.trans (Below.bS ((aM _ _).setCell (by simp <;> omega) _))⟩;rw [SS s key (aI f) i hlt (by rw [<-HLA.out];exact HK.out) (λj hj=>by have:=HNE.out j hj;rwa [show bT f j=(aI f)[j]'(by omega) by unfold bT;rw [List.getD_eq_getElem?_getD,List.getElem?_eq_getElem (by omega)];rfl] at this),<-HLA.out];exact p2.drew.set 0 _
  . have hkb:((s (bT f i)).key == key)=false:=by simpa using hk
    have HK:=aa hk;clear hk
    gi_wp2
    refine gQ (λ_=>False) #[⟨0,0,2^18,8,0⟩,⟨1,1,2^19,2^18,1⟩,⟨0,0,2^20,128,0⟩,⟨2,3,2^21,2^19,0⟩,⟨8,11,2^22,2^21,0⟩,⟨20,31,2^23,(2^20+2^22),0⟩,⟨32,63,2^24,2^23,0⟩,⟨64,127,2^25,2^24,1⟩,⟨0,0,2^26,16,1⟩,⟨384,511,2^27,(2^25+2^26),0⟩] 386 [(0,0),(1,1),(2,0),(3,0),(4,0),(5,0),(6,0),(7,1),(8,1),(9,0)] (by kernel_rfl) (by kernel_rfl) (by kernel_rfl) (by kernel_rfl) (by kernel_rfl) (by kernel_rfl) (λc a d v w h=>by cases d <;> exact h) (by kernel_rfl) (by rintro ⟨a,w,h⟩;exact h) ?_;refine aj ?_;refine bW Tryz.underlying94 ?_
    try refine aC ?_;refine aj ?_;refine aj ?_;refine aj ?_;refine aj ?_;refine aj ?_
    refine bW Tryz.underlying38 ?_
    try refine aC ?_
    refine bW Tryz.underlying38 ?_
    try refine aC ?_;refine aj ?_
    refine aD ?_
    gi_wp2
    refine ⟨(KeepsOthers.drew W).from _,λ_ _=>rfl,⟨p0,p1,p2,p3,λj hj=>?_⟩,hB.drew⟩;by_cases e:j=i
    . subst e;exact HK.out
    . exact HNE.out j (by omega)
 case done =>
  rintro D W hD ⟨⟨p0,p1,p2,p3,hne⟩,hB⟩ hK
  have e2:=p2.boxed.cell;have f2:=p2.boxed.frozen;have TR:=aa hK;have hF:eP s key (aI f) = -1:=Om s key _ (λj hj=>by have:=hne j hj;rwa [show bT f j=(aI f)[j] by unfold bT;rw [List.getD_eq_getElem?_getD,List.getElem?_eq_getElem hj];rfl] at this);have HFZ:=aa hF;clear hK hne hF;go_wp2;refine Bu (v := .int .i64 (-1)) ((KeepsOthers.setCell _ _ _).same D _ TR.out rfl) (kE rfl rfl (af.putObj (af.set p2 0 (.int .i64 (-1))) (by omega) _).boxed.cell Tryz.isAgg3) ⟨by rw [HFZ.out],?_⟩ _ (.inl rfl);exact (hB.trans ((aM _ W).setCell (by simp <;> omega) _)).trans (gP _ (by omega) ((KeepsOthers.setCell _ _ _).same D _ TR.out rfl))
 case stop =>
  rintro D c W hD ⟨⟨rfl,p2⟩,hB⟩ hK
  have TR:=aa hK;clear hK
  gi_wp2
  refine Bu (v := .int .i64 (eP s key (aI f))) TR.out (kE rfl rfl (af.putObj p2 (by omega) _).boxed.cell Tryz.isAgg3) ⟨rfl,?_⟩ _ (.inl rfl);exact hB.trans (gP _ (by omega) TR.out)
end Go.Proofs.YtolhmibejhldkaaGreatDoor
namespace Go.Proofs.YtolhmibejhldkaaGreatDoor
open Go.RowKit Go.Proofs
def lT (p:Nat->Bool):Int:=match (List.range 8).find? p with|none => -1|some n=>(n:Int)
theorem AR {p:Nat->Bool} {k:Nat} (hk:k<8) (h:p k=true) (hb:∀j,j<k->p j=false):lT p=(k:Int):=by
 have:(List.range 8).find? p=some k:=by
  rw [List.find?_eq_some_iff_getElem];exact ⟨h,k,by simpa using hk,by simp,λj hj=>by simpa using hb j hj⟩
 unfold lT;rw [this]
theorem qD {p:Nat->Bool} (h:∀j,j<8->p j=false):lT p = -1:=by
 have:(List.range 8).find? p=none:=by
  rw [List.find?_eq_none];intro x hx;simpa using h x (by simpa using hx)
 unfold lT;rw [this]
theorem find_congr {α:Type} {p q:α->Bool}:∀ {l:List α},(∀x∈l,p x=q x)->l.find? p=l.find? q
 | [],_=>rfl
 | a :: l,h=>by rw [List.find?_cons,List.find?_cons,h a (by simp),find_congr (λx hx=>h x (by simp [hx]))]
theorem Np {p q:Nat->Bool} (h:∀i,i<8->p i=q i):lT p=lT q:=by
 unfold lT;rw [find_congr (λx hx=>h x (by simpa using hx))]
theorem rW (p:Nat->Bool):(lT p = -1/\∀j,j<8->p j=false)\/∃k:Nat,lT p=(k:Int)/\k<8/\p k=true/\∀j,j<k->p j=false:=by
 cases h:(List.range 8).find? p with
 | none =>
  rw [List.find?_eq_none] at h;have:∀j,j<8->p j=false:=λj hj=>by simpa using h j (by simpa using hj)
  exact .inl ⟨qD this,this⟩
 | some k =>
  rw [List.find?_eq_some_iff_getElem] at h;obtain ⟨h1,i,hi,e,h2⟩:=h;simp at e hi
  subst e;have hb:∀j,j<i->p j=false:=λj hj=>by simpa using h2 j hj
  exact .inr ⟨i,AR hi h1 hb,hi,h1,hb⟩
theorem Il (s:Nat->ai) (key:Int) (f:Nat->Bool):eP s key (aI f)=lT (λi=>f i && (s i).key == key):=by
 unfold eP lT aI;rw [List.find?_filter]
 have e:(λa=>decide (f a=true/\((s a).key == key)=true))=(λi=>f i && (s i).key == key):=by
  funext a;rw [Bool.eq_iff_iff];simp
 try rw [e]
 all_goals (generalize List.find? (λi=>f i && (s i).key == key) (List.range 8)=r;cases r <;> rfl)
theorem Ci (m:Nat):dQ m=lT (λi => !bC m i):=by
 unfold dQ;have e:∀i,(!bC m i)=fF m i:=λi=>by unfold bC;simp
 simp only [e];cases h:gN (fF m) with
 | none=>rw [qD (pV h)]
 | some j =>
  obtain ⟨h1,h2,h3⟩:=jw h;rw [AR h1 h2 h3]
def jC (m:Nat) (s:Nat->ai):Prop :=
 m<18446744073709551616/\∀i,i<8->nN (ln m i)=true/\∃h:Nat,(s i).hash=(h:Int)/\h<18446744073709551616/\(ln m i<128->ln m i=h % 128)
theorem eO (m i:Nat):bC m i=true↔ln m i<128:=by unfold bC fF;simp
theorem mi (m i:Nat):bC m i=false↔¬ln m i<128:=by rw [<-eO];simp
theorem jC.new:jC (rep 128) (λ_=>ai.zero) :=
 ⟨by decide,λi hi=>by rw [oG 128 i (by decide) hi];exact ⟨rfl,0,rfl,by decide,λh=>by omega⟩⟩
theorem jC.put {m:Nat} {s:Nat->ai} (hg:jC m s) (k h:Nat) (x0 x1:Int) (hh:h<18446744073709551616):jC (fB m k (h % 128)) (eY s k ⟨x0,x1,h⟩) :=
 ⟨QC _ _ _ (by omega),λi hi=>by
  rw [jJ m k _ i (by omega) hi];unfold eY;by_cases e:i=k
  . rw [if_pos e,if_pos e];exact ⟨Iu _ (by omega),h,rfl,hh,λ_=>rfl⟩
  . rw [if_neg e,if_neg e];exact hg.2 i hi⟩
theorem jC.aia {m:Nat} {s:Nat->ai} (hg:jC m s) (k:Nat) (v:Int):jC m (eY s k { s k with val:=v}) :=
 ⟨hg.1,λi hi=>by
  unfold eY;by_cases e:i=k
  . rw [if_pos e];subst e;exact hg.2 i hi
  . rw [if_neg e];exact hg.2 i hi⟩
theorem kK (m:Nat):dB m<256:=by unfold dB;split <;> decide
theorem ES (m:Nat):¬dB m<128:=by unfold dB;split <;> decide
theorem Od (m:Nat):nN (dB m)=true:=by unfold dB;split <;> decide
theorem jC.erase {m:Nat} {s:Nat->ai} (hg:jC m s) (k:Nat):jC (fB m k (dB m)) (eY s k ai.zero) :=
 ⟨QC _ _ _ (kK m),λi hi=>by
  rw [jJ m k _ i (kK m) hi];unfold eY;by_cases e:i=k
  . rw [if_pos e,if_pos e];exact ⟨Od m,0,rfl,by decide,λh=>(ES m h).elim⟩
  . rw [if_neg e,if_neg e];exact hg.2 i hi⟩
def sI (m:Nat) (s:Nat->ai) (key:Int) (h:Nat) (i:Nat):Bool:=bC m i && ((s i).key == key && (s i).hash % 128 == ((h % 128:Nat):Int))
theorem Ff {m:Nat} {s:Nat->ai} (hg:jC m s) (key:Int) (h:Nat):eP s key (aI (aU m (h % 128)))=lT (sI m s key h):=by
 rw [Il];refine Np λi hi=>?_;obtain ⟨hc,q,hq,-,hl⟩:=hg.2 i hi;unfold sI;rw [hq,Bool.eq_iff_iff];simp only [Bool.and_eq_true,beq_iff_eq];have e1:aU m (h % 128) i=true↔ln m i=h % 128:=by unfold aU;simp
 rw [e1,eO]
 constructor
 . rintro ⟨h1,h2⟩
   have:=hl (by omega);exact ⟨by omega,h2,by omega⟩
 . rintro ⟨h1,h2,h3⟩
   have:=hl h1;exact ⟨by omega,h2⟩
def aV (m k:Nat):Nat:=((List.range 8).filter (λi=>decide (dD (ln m i)=k))).length
theorem mr (m:Nat):(aI (bC m)).length=aV m 3:=by
 unfold aV aI
 congr 1
 exact List.filter_congr λi _=>(Ie m i).symm
theorem gY (m:Nat):(aI (aU m 254)).length=aV m 2:=by
 unfold aV aI
 congr 1
 exact List.filter_congr λi _=>(Bl m i).symm
theorem count_empty (m:Nat):(aI (aU m 128)).length=aV m 1:=by
 unfold aV aI
 congr 1
 exact List.filter_congr λi _=>(NR m i).symm
theorem ko (m:Nat):bR m=decide (0<aV m 1):=by
 rw [<-count_empty];unfold bR aI;rw [Bool.eq_iff_iff,List.any_eq_true,decide_eq_true_iff,List.length_pos_iff_exists_mem]
 constructor
 . rintro ⟨i,h1,h2⟩;exact ⟨i,by simp only [List.mem_filter];exact ⟨h1,h2⟩⟩
 . rintro ⟨i,h⟩;simp only [List.mem_filter] at h;exact ⟨i,h.1,h.2⟩
theorem qP (m k:Nat):aV m k<=8:=by
 have:=List.length_filter_le (λi=>decide (dD (ln m i)=k)) (List.range 8);simpa [aV] using this
def aS (m:Nat) (s:Nat->ai):List ai:=(aI (bC m)).map s
def dF (m:Nat) (s:Nat->ai) (j:Nat):Value :=
 if j % 4=0 then .int .i64 ((dD (ln m (j / 4)):Nat):Int) else if j % 4=1 then .int .u64 (s (j / 4)).key else if j % 4=2 then .int .u64 (s (j / 4)).val else .int .u64 (s (j / 4)).hash
def DW (w:World) (R m:Nat) (s:Nat->ai):Prop:=af w R 190 (nC 32 (dF m s))
theorem VK (m:Nat) (s:Nat->ai) (i:Nat):dF m s (i*4) = .int .i64 ((dD (ln m i):Nat):Int):=by unfold dF;rw [if_pos (by omega),show i*4 / 4=i by omega]
theorem VJ (m:Nat) (s:Nat->ai) (i:Nat):dF m s (i*4+1) = .int .u64 (s i).key:=by unfold dF;rw [if_neg (by omega),if_pos (by omega),show (i*4+1) / 4=i by omega]
theorem acb (m:Nat) (s:Nat->ai) (i:Nat):dF m s (i*4+2) = .int .u64 (s i).val:=by unfold dF;rw [if_neg (by omega),if_neg (by omega),if_pos (by omega),show (i*4+2) / 4=i by omega]
theorem VI (m:Nat) (s:Nat->ai) (i:Nat):dF m s (i*4+3) = .int .u64 (s i).hash:=by unfold dF;rw [if_neg (by omega),if_neg (by omega),if_neg (by omega),show (i*4+3) / 4=i by omega]
def acX (m:Nat) (s:Nat->ai) (i:Nat):Array Value := #[.int .i64 ((dD (ln m i):Nat):Int),.int .u64 (s i).key,.int .u64 (s i).val,.int .u64 (s i).hash]
theorem ajB (m:Nat) (s:Nat->ai) (k:Nat) (hk:k<8):(nC 32 (dF m s)).extract (k*4) (k*4+4)=acX m s k:=by
 apply Array.ext_getElem?
 intro j;rw [Array.getElem?_extract,iR];by_cases hj:j<4
 . rw [if_pos (by omega),gV _ _ _ (by omega)];obtain rfl|rfl|rfl|rfl:j=0\/j=1\/j=2\/j=3:=by omega
   . rw [Nat.add_zero,VK];rfl
   . rw [VJ];rfl
   . rw [acb];rfl
   . rw [VI];rfl
 . rw [if_neg (by omega)];exact (Array.getElem?_eq_none (by show 4<=j;omega)).symm
theorem Dr (m:Nat) (s:Nat->ai) (k:Nat) (hk:k<8) (w:World):(Instr.index 188 (.agg (nC 32 (dF m s))) (.int .i64 (k:Int))).run Tryz.prog w = .ok (.agg #[.int .i64 ((dD (ln m k):Nat):Int),.int .u64 (s k).key,.int .u64 (s k).val,.int .u64 (s k).hash]) w:=by
 have hag:(isAgg 187).run Tryz.prog w = .ok true w:=Tryz.isAgg187 w;have hsz:=Tryz.sizeOf187 w
 have hp:(part 187 (nC 32 (dF m s)) ((k:Int).toNat*4)).run Tryz.prog w = .ok (.agg (acX m s k)) w:=by
  simp only [part,Sem.run_bind,hag,Result.andThen,if_true,hsz,Sem.run_pure,Int.toNat_natCast,ajB m s k hk]
 have h1:0<=(k:Int)/\(k:Int)<((8:Nat):Int):=by omega
 simp only [Instr.index,asIntOf,Sem.run_bind,Sem.run_pure,Result.andThen,run_underlying Tryz.underlying188,if_pos h1,hsz,hp];rfl
theorem DW.lt {w:World} {R m:Nat} {s:Nat->ai} (h:DW w R m s):R<w.heap.size:=af.lt h
theorem DW.below {n:Nat} {w w':World} {R m:Nat} {s:Nat->ai} (h:DW w R m s) (hb:Below n w w') (hR:R<n):DW w' R m s:=af.below h hb hR
theorem DW.aA {X:Nat->Prop} {w w':World} {R m:Nat} {s:Nat->ai} (h:DW w R m s) (hb:ah X w w') (hR:¬X R):DW w' R m s:=af.aA h hb hR
theorem DW.alloc {w:World} {R m:Nat} {s:Nat->ai} (h:DW w R m s) (b:Obj):DW (w.alloc b) R m s:=af.alloc h b
theorem DW.drew {w:World} {R m:Nat} {s:Nat->ai} (h:DW w R m s):DW w.drew R m s:=h
theorem DW.cells {w:World} {R m:Nat} {s:Nat->ai} (h:DW w R m s) (i:Nat) (hi:i<8) :
 w.cell? ⟨R,i*4,none⟩=some (.int .i64 ((dD (ln m i):Nat):Int))/\w.cell? ⟨R,i*4+1,none⟩=some (.int .u64 (s i).key)/\w.cell? ⟨R,i*4+2,none⟩=some (.int .u64 (s i).val)/\w.cell? ⟨R,i*4+3,none⟩=some (.int .u64 (s i).hash) :=
 ⟨(af.cell h _).trans ((gV _ _ _ (by omega)).trans (by rw [VK])),(af.cell h _).trans ((gV _ _ _ (by omega)).trans (by rw [VJ])),(af.cell h _).trans ((gV _ _ _ (by omega)).trans (by rw [acb])),(af.cell h _).trans ((gV _ _ _ (by omega)).trans (by rw [VI]))⟩
theorem DW.frozen {w:World} {R m:Nat} {s:Nat->ai} (h:DW w R m s) (j:Nat):w.frozen? ⟨R,j,none⟩=false:=af.frozen h j
theorem DW.DV {w:World} {R m:Nat} {s:Nat->ai} (h:DW w R m s) (k b:Nat) (hk:k<8) (hb:b<256) (e:ai) :
 DW ((((w.setCell ⟨R,k*4,none⟩ (.int .i64 ((dD b:Nat):Int))).setCell ⟨R,k*4+1,none⟩ (.int .u64 e.key)).setCell ⟨R,k*4+2,none⟩ (.int .u64 e.val)).setCell ⟨R,k*4+3,none⟩ (.int .u64 e.hash)) R (fB m k b) (eY s k e):=by
 have:=(((af.set h (k*4) (.int .i64 ((dD b:Nat):Int))).set (k*4+1) (.int .u64 e.key)).set (k*4+2) (.int .u64 e.val)).set (k*4+3) (.int .u64 e.hash);rw [nV _ _ _ _ (by omega),nV _ _ _ _ (by omega),nV _ _ _ _ (by omega),nV _ _ _ _ (by omega)] at this;unfold DW
 rw [oO (F':=dF (fB m k b) (eY s k e)) (λj hj=>by
  by_cases e3:j=k*4+3
  . subst e3;rw [if_pos rfl,VI,fP]
  . rw [if_neg e3];by_cases e2:j=k*4+2
    . subst e2;rw [if_pos rfl,acb,fP]
    . rw [if_neg e2];by_cases e1:j=k*4+1
      . subst e1;rw [if_pos rfl,VJ,fP]
      . rw [if_neg e1];by_cases e0:j=k*4
        . subst e0;rw [if_pos rfl,VK,jJ m k b k hb hk,if_pos rfl]
        . rw [if_neg e0];unfold dF eY
          rw [jJ m k b _ hb (by omega),if_neg (show ¬j / 4=k by omega),if_neg (show ¬j / 4=k by omega)])] at this
 exact this
theorem DW.Nk {w:World} {R m:Nat} {s:Nat->ai} (h:DW w R m s) (k:Nat) (hk:k<8) (v:Int) :
 DW (w.setCell ⟨R,k*4+2,none⟩ (.int .u64 v)) R m (eY s k { s k with val:=v}):=by
 have:=af.set h (k*4+2) (.int .u64 v);rw [nV _ _ _ _ (by omega)] at this;unfold DW
 rw [oO (F':=dF m (eY s k { s k with val:=v})) (λj hj=>by
  by_cases e2:j=k*4+2
  . subst e2;rw [if_pos rfl,acb,fP]
  . rw [if_neg e2];by_cases e1:j=k*4+1
    . subst e1;rw [VJ,VJ,fP]
    . by_cases e3:j=k*4+3
      . subst e3;rw [VI,VI,fP]
      . by_cases e0:j=k*4
        . subst e0;rw [VK,VK]
        . unfold dF eY
          rw [if_neg (show ¬j / 4=k by omega)])] at this
 exact this
theorem Lj (m k:Nat):(((dD (ln m k):Nat):Int) == 3)=bC m k:=by
 rw [<-Ie,Bool.eq_iff_iff];simp;omega
theorem Ex (m k:Nat):(((dD (ln m k):Nat):Int) != 3) = !bC m k:=by rw [bne,Lj]
theorem OC (R m:Nat) (s:Nat->ai) (w:World) (h:DW w R m s) :
 Calls Tryz.prog 162 #[.pointer (some ⟨R,0,none⟩)] w λe w'=>e = .returned (.int .i64 (lT (λi => !bC m i)))/\Below w.heap.size w w':=by
 have HD:=aa h;have IX:=λ(k:Nat) (hk:k<8) (w:World)=>Dr m s k hk w;have hl:=h.lt;clear h;go_enter Tryz.func162,Tryz.ntmps162
 go_wp2_with (
  (refine eU rfl (jM (t:=188) rfl rfl Tryz.underlying188 rfl HD.out (by rw [iR];exact Tryz.sizeOf188 _)) ?_)
  )
 go_loopw [9] (λv9 wr => ∃k:Nat,k<=8/\v9 = .int .i64 (k:Int)/\(∀j,j<k->(!bC m j)=false)/\Below w.heap.size w wr) (λv9 _=>8-(intOf v9).toNat)
 case atStart=>exact ⟨0,by omega,rfl,λj hj=>by omega,aM _ _⟩
 case round =>
  obtain ⟨k,hk,rfl,hn,hB⟩:=hrel;have HN:=aa hn;have QM:=hB.size;clear hn;by_cases hlt:k<8
  . have kJ:decide ((k:Int)<8)=true:=by simp;omega
    have ix:=IX k hlt;have kk:=Ex m k;by_cases hf:bC m k=true
    . rw [hf] at kk;have HFL:=aa hf;clear hf;go_wp2
      go_roundw
      case rel =>
       refine ⟨k+1,by omega,by go_num,λj hj=>?_,by go_grown⟩;by_cases e:j=k
       . subst e;rw [HFL.out];rfl
       . exact HN.out j (by omega)
      case measure=>simp [intOf];omega
    . replace hf:bC m k=false:=by simpa using hf
      rw [hf] at kk;have HFL:=aa hf;clear hf;go_wp2;go_ret;refine ⟨?_,by go_grown⟩;rw [AR hlt (by rw [HFL.out];rfl) HN.out];rfl
  . obtain rfl:k=8:=by omega
    go_wp2;go_ret;refine ⟨?_,by go_grown⟩;rw [qD HN.out];rfl
def lu (m kd n:Nat):Nat:=((List.range n).filter (λi=>decide (dD (ln m i)=kd))).length
theorem JY (m kd n:Nat):lu m kd (n+1)=lu m kd n+if dD (ln m n)=kd then 1 else 0:=by
 unfold lu;rw [List.range_succ,List.filter_append,List.length_append]
 congr 1
 by_cases h:dD (ln m n)=kd
 . simp [h]
 . simp [h]
theorem Qd (m kd n:Nat):lu m kd n<=n:=by
 have:=List.length_filter_le (λi=>decide (dD (ln m i)=kd)) (List.range n);simpa [lu] using this
theorem kC (R m kd:Nat) (s:Nat->ai) (w:World) (h:DW w R m s) :
 Calls Tryz.prog 164 #[.pointer (some ⟨R,0,none⟩),.int .i64 (kd:Int)] w λe w'=>e = .returned (.int .i64 ((aV m kd:Nat):Int))/\Below w.heap.size w w':=by
 have HD:=aa h;have IX:=λ(k:Nat) (hk:k<8) (w:World)=>Dr m s k hk w;have HSU:=aa (JY m kd);have HLE:=aa (Qd m kd);rw [show aV m kd=lu m kd 8 from rfl];have hl:=h.lt;clear h;go_enter Tryz.func164,Tryz.ntmps164
 go_wp2_with (
  (refine eU rfl (jM (t:=188) rfl rfl Tryz.underlying188 rfl HD.out (by rw [iR];exact Tryz.sizeOf188 _)) ?_)
  )
 go_loopw [5,12] (λv5 v12 wr => ∃k:Nat,k<=8/\v12 = .int .i64 (k:Int)/\v5 = .int .i64 ((lu m kd k:Nat):Int)/\Below w.heap.size w wr) (λ_ v12 _=>8-(intOf v12).toNat)
 case atStart=>exact ⟨0,by omega,rfl,rfl,aM _ _⟩
 case round =>
  obtain ⟨k,hk,rfl,rfl,hB⟩:=hrel;have QM:=hB.size;by_cases hlt:k<8
  . have kJ:decide ((k:Int)<8)=true:=by simp;omega
    have ix:=IX k hlt;have hle:=HLE.out k;have hsu:=HSU.out k;by_cases hf:dD (ln m k)=kd
    . have kk:(((dD (ln m k):Nat):Int) == (kd:Int))=true:=by rw [hf];simp
      rw [if_pos hf] at hsu;have HSK:=aa hsu;clear hf hsu;generalize lu m kd k=c at *
      go_wp2
      go_roundw
      case rel=>exact ⟨k+1,by omega,by go_num,by rw [HSK.out];go_num,by go_grown⟩
      case measure=>simp [intOf];omega
    . have kk:(((dD (ln m k):Nat):Int) == (kd:Int))=false:=by simp;omega
      rw [if_neg hf] at hsu;have HSK:=aa hsu;clear hf hsu;generalize lu m kd k=c at *
      go_wp2
      go_roundw
      case rel=>exact ⟨k+1,by omega,by go_num,by rw [HSK.out];rfl,by go_grown⟩
      case measure=>simp [intOf];omega
  . obtain rfl:k=8:=by omega
    go_wp2;go_ret;exact ⟨rfl,by go_grown⟩
theorem Cn (R m h:Nat) (s:Nat->ai) (key:Int) (hg:jC m s) (hh:h<18446744073709551616) (w:World) (hd:DW w R m s) :
 Calls Tryz.prog 163 #[.pointer (some ⟨R,0,none⟩),.int .u64 key,.int .u64 (h:Int)] w λe w'=>e = .returned (.int .i64 (lT (sI m s key h)))/\Below w.heap.size w w':=by
 have HD:=aa hd;have IX:=aa (λ(k:Nat) (hk:k<8) (w:World)=>Dr m s k hk w);have HGG:=aa hg;have hl:=hd.lt;clear hd hg;obtain ⟨Y,hY⟩:∃Y:Int,Y=((h % 128:Nat):Int):=⟨_,rfl⟩
 have hm2:Int.tmod (h:Int) 128=Y:=by rw [hY,Int.tmod_eq_emod_of_nonneg (by omega)];omega
 have HY:=aa hY;clear hY;go_enter Tryz.func163,Tryz.ntmps163
 go_wp2_with (
  (refine eU rfl (jM (t:=188) rfl rfl Tryz.underlying188 rfl HD.out (by rw [iR];exact Tryz.sizeOf188 _)) ?_)
  )
 go_loopw [13] (λv13 wr => ∃k:Nat,k<=8/\v13 = .int .i64 (k:Int)/\(∀j,j<k->sI m s key h j=false)/\Below w.heap.size w wr) (λv13 _=>8-(intOf v13).toNat)
 case atStart=>exact ⟨0,by omega,rfl,λj hj=>by omega,aM _ _⟩
 case round =>
  obtain ⟨k,hk,rfl,hn,hB⟩:=hrel;have HN:=aa hn;have QM:=hB.size;clear hn;by_cases hlt:k<8
  . have kJ:decide ((k:Int)<8)=true:=by simp;omega
    have ix:=IX.out k hlt;have kk:=Lj m k;obtain ⟨-,q,hq,hq2,-⟩:=HGG.out.2 k hlt
    have hP:sI m s key h k=(bC m k && ((s k).key == key && ((q % 128:Nat):Int) == Y)):=by
     unfold sI;rw [hq,HY.out];rfl
    rw [hq] at ix;obtain ⟨X,hX⟩:∃X:Int,X=((q % 128:Nat):Int):=⟨_,rfl⟩
    have hm1:Int.tmod (q:Int) 128=X:=by rw [hX,Int.tmod_eq_emod_of_nonneg (by omega)];omega
    rw [<-hX] at hP;clear hX;obtain ⟨b1,hb1⟩:=dC (bC m k);obtain ⟨b2,hb2⟩:∃b,b=((s k).key == key):=⟨_,rfl⟩
    obtain ⟨b3,hb3⟩:∃b,b=(X == Y):=⟨_,rfl⟩
    rw [<-hb1,<-hb2,<-hb3] at hP;rw [<-hb1] at kk;have HP:=aa hP;have k2:=hb2.symm;have k3:=hb3.symm;clear hP hb1 hb2 hb3 hq;by_cases hb:(b1 && (b2 && b3))=true
    . obtain ⟨rfl,rfl,rfl⟩:b1=true/\b2=true/\b3=true:=by simpa using hb
      clear hb;go_wp2;go_ret;refine ⟨?_,by go_grown⟩;rw [AR hlt HP.out HN.out];rfl
    . have hF:sI m s key h k=false:=by rw [HP.out];simpa using hb
      have HFF:=aa hF;clear hF;cases h1:b1 with
      | false =>
       subst h1;clear hb;go_wp2
       go_roundw
       case rel =>
        refine ⟨k+1,by omega,by go_num,λj hj=>?_,by go_grown⟩;by_cases e:j=k
        . subst e;exact HFF.out
        . exact HN.out j (by omega)
       case measure=>simp [intOf];omega
      | true =>
       subst h1;cases h2:b2 with
       | false =>
        subst h2;clear hb;go_wp2
        go_roundw
        case rel =>
         refine ⟨k+1,by omega,by go_num,λj hj=>?_,by go_grown⟩;by_cases e:j=k
         . subst e;exact HFF.out
         . exact HN.out j (by omega)
        case measure=>simp [intOf];omega
       | true =>
        subst h2;cases h3:b3 with
        | false =>
         subst h3;clear hb;go_wp2
         go_roundw
         case rel =>
          refine ⟨k+1,by omega,by go_num,λj hj=>?_,by go_grown⟩;by_cases e:j=k
          . subst e;exact HFF.out
          . exact HN.out j (by omega)
         case measure=>simp [intOf];omega
        | true=>subst h3;exact absurd rfl hb
  . obtain rfl:k=8:=by omega
    go_wp2;go_ret;refine ⟨?_,by go_grown⟩;rw [qD HN.out];rfl
def e3 (e:ai):List Value := [.int .u64 e.key,.int .u64 e.val,.int .u64 e.hash]
def cB (l:List ai):List Value:=l.flatMap e3
theorem kP (l k:List ai):cB (l ++ k)=cB l ++ cB k:=by simp [cB]
theorem Tc (l:List ai) (e:ai):cB (l ++ [e])=cB l ++ e3 e:=by simp [cB]
theorem mQ (l:List ai):(cB l).length=l.length*3:=by
 induction l with
 | nil=>rfl
 | cons a l ih=>rw [show cB (a :: l)=e3 a ++ cB l from rfl,List.length_append,ih];simp [e3];omega
theorem ab6 (l:List ai) (i:Nat) (h:i<l.length) (j:Nat) (hj:j<3):(cB l)[i*3+j]?=(e3 l[i])[j]?:=by
 induction l generalizing i with
 | nil=>simp at h
 | cons a l ih =>
  rw [show cB (a :: l)=e3 a ++ cB l from rfl];have h3:(e3 a).length=3:=rfl;cases i with
  | zero=>rw [List.getElem?_append_left (by omega)];simp
  | succ i =>
   rw [List.getElem?_append_right (by omega),h3,show (i+1)*3+j-3=i*3+j by omega,ih i (by simpa using h)];rfl
def Ct (w:World) (v:Value) (l:List ai):Prop :=
 ∃a cap,v = .slice a l.length cap/\(l≠ []->∃b off,a=some ⟨b,off,none⟩/\b<w.heap.size/\∀i (h:i<l.length),w.cell? ⟨b,off+i*3,none⟩=some (.int .u64 l[i].key)/\w.cell? ⟨b,off+i*3+1,none⟩=some (.int .u64 l[i].val)/\w.cell? ⟨b,off+i*3+2,none⟩=some (.int .u64 l[i].hash))
theorem Ct.later {w w':World} {v:Value} {l:List ai} (h:Ct w v l) (hb:Below w.heap.size w w'):Ct w' v l:=by
 obtain ⟨a,cap,rfl,hx⟩:=h;refine ⟨a,cap,rfl,λhne=>?_⟩;obtain ⟨b,off,rfl,hlt,hc⟩:=hx hne;exact ⟨b,off,rfl,bM hlt hb.size,λi hi=>⟨(hb.cell (p:=⟨b,_,none⟩) hlt).trans (hc i hi).1,(hb.cell (p:=⟨b,_,none⟩) hlt).trans (hc i hi).2.1,(hb.cell (p:=⟨b,_,none⟩) hlt).trans (hc i hi).2.2⟩⟩
theorem iO (w:World) (x y z:Value) (t:TypeId):∀j u,[x,y,z][j]?=some u->(w.alloc (.cells #[x,y,z] t)).cell? ((⟨w.heap.size,0,none⟩:Addr).add j)=some u:=by
 intro j u hj
 have h6:(⟨w.heap.size,0,none⟩:Addr).add j=⟨w.heap.size,j,none⟩:=by
  simp only [Addr.add];split
  . rename_i e;rw [e]
  . simp
 rw [h6,(af.new w t _).cell];simpa using hj
theorem own_ne {W:World} {n C:Nat} {e:TypeId} {size:Nat} {v:Value} {k:Nat} {xs:List Value} (h:W.ownsRow n e size v k xs) (hC:C<n):some C≠v.ownBlock:=by
 rcases h.2 with ⟨rfl,_⟩ | ⟨g,cap,cur,rfl,hb,_⟩
 . simp [Value.ownBlock]
 . simp only [Value.ownBlock];intro e';cases e';omega
theorem aQ {P:Program} {w:World} {o:Oper} {a:Act} {K:Act->World->Prop} {Q:Exit->Act->World->Prop} (s x:Operand) (t:TypeId)
 (ho:o.op = .call { callee := .builtin .append,args := #[s,x],argTypes := #[t,t]})
 (base:Nat) (e:TypeId) (i:TypeInfo) (z:Value) (size bytes:Nat) (ht:P.underlying t=some (.slice e)) (hi:P.info? e=some i) (hz:i.zero=some z)
 (hsize:i.size=size) (hby:i.bytes=bytes) (hzs:z.cells.size=size) (hsz:0<size)
 (v:Value) (n:Nat) (xs:List Value) (hs:a.eval s=v) (hown:w.ownsRow base e size v n xs)
 (ad:Addr) (m c:Nat) (news:List Value) (hx:a.eval x = .slice (some ad) m c) (hl:news.length=m*size) (hnews:∀j u,news[j]?=some u->w.cell? (ad.add j)=some u) (h1:∀u∈news,u.oneCell'=true)
 (h63:n+m<=maxLen) (hbytes:(n+m)*bytes<=140737488355328) (hbase:base<=w.heap.size) (hm:0<m)
 (h:∀v' w',w'.ownsRow base e size v' (n+m) (xs ++ news)->w.grownBy w' v.ownBlock->(v'.ownBlock=v.ownBlock\/v'.ownBlock=some w.heap.size)->K (a.put o.dst v') w'):o.wp P a w K Q:=by
 obtain ⟨v',w',hr,r1,r2,r3⟩:=Dh (P:=P) w base t o.type e i z size bytes ht hi hz hsize hby hzs hsz v n xs hown ad m c news hl hnews h1 h63 hbytes hbase hm;unfold Oper.wp execOp;simp only [ho,resolve,invoke,builtin,Sem.run_bind,Sem.run_pure,Result.andThen_ok,List.map_toArray,List.map_cons,List.map_nil,hs,hx,hr];exact h v' w' r1 r2 r3
theorem Tw {W w1:World} {n₀ n₁ B:Nat} {t e:TypeId} {size:Nat} {v v':Value} {k m:Nat} {xs ys:List Value} {tmp:Obj}
 (hv:Boxed W B t v) (hte:t≠e) (hrow:W.ownsRow n₁ e size v k xs) (h01:n₀<=n₁) (hn₀:n₀<=W.heap.size) (hB:n₀<=B)
 (hown':w1.ownsRow n₁ e size v' m ys) (hgrow:(W.alloc tmp).grownBy w1 v.ownBlock) :
 Boxed w1 B t v/\Boxed (w1.setCell ⟨B,0,none⟩ v') B t v'/\(w1.setCell ⟨B,0,none⟩ v').ownsRow n₁ e size v' m ys/\KeepsOthers W (w1.setCell ⟨B,0,none⟩ v')/\Below n₀ W (w1.setCell ⟨B,0,none⟩ v'):=by
 obtain ⟨h1,h2,-,h4,h5⟩:=hv.appended hte (fU hrow h01) hn₀ hB (fU hown' h01) hgrow;exact ⟨h1,h2,hown'.kept (grownBy_setCell' w1 B v') (.inr (h1.not_row hte hown').symm),h4,h5⟩
theorem acI:(Tryz.prog.info? 46).map (λi=>(i.zero,i.size,i.bytes))=some (some (.agg #[.int .u64 0,.int .u64 0,.int .u64 0]),3,24):=by kernel_rfl
theorem agc (m k:Nat):(((dD (ln m k):Nat):Int) == 2)=(ln m k == 254):=by
 have:=Bl m k;rw [Bool.eq_iff_iff] at this ⊢;unfold aU at this;simp at this ⊢
 omega
theorem abE (q:Nat) (h:q<128):dD q=3:=by unfold dD;rw [if_neg (by omega),if_neg (by omega),if_pos h]
theorem aca (R m k h:Nat) (s:Nat->ai) (x0 x1:Int) (hh:h<18446744073709551616) (hk:k<8) (hf:cK m (k:Int) false=0) (w:World) (hd:DW w R m s) :
 Calls Tryz.prog 124 #[.pointer (some ⟨R,0,none⟩),.int .i64 (k:Int),.agg #[.int .u64 x0,.int .u64 x1,.int .u64 (h:Int)]] w λe w' =>
  e = .returned (.tuple #[.bool (ln m k == 254),.int .i64 0])/\DW w' R (fB m k (h % 128)) (eY s k ⟨x0,x1,h⟩)/\ah (λb=>b=R) w w':=by
 have hl:=hd.lt
 have hfl:bC m k=false:=by
  rw [jf m k false hk] at hf;rw [mi];by_cases c:ln m k<128
  . rw [if_neg (by simpa using c)] at hf;cases hf
  . exact c
 obtain ⟨c0,c1,c2,c3⟩:=hd.cells k hk;have hfw:=hd.frozen;have k3:=Lj m k;rw [hfl] at k3;have k2:=agc m k;have HK:=aa (abE (h % 128) (by omega));have HD:=aa hd;have d0:decide ((k:Int)<0)=false:=by simp
 have d7:decide ((k:Int) > 7)=false:=by simp;omega
 have hk8:(k:Int)<8:=by omega
 have hne:¬w.heap.size=R:=by omega
 clear hf hfl hd;obtain ⟨b2,hb2⟩:∃b,b=(ln m k == 254):=⟨_,rfl⟩
 rw [<-hb2] at k2 ⊢;clear hb2;generalize hkn:dD (ln m k)=kn at *
 clear hkn;go_enter Tryz.func124,Tryz.ntmps124
 go_wp2;refine ag (λb=>b=R) #[⟨0,0,2^31,1,0⟩,⟨0,0,2^32,2,0⟩,⟨0,0,2^33,32,1⟩,⟨4,4,2^34,2^33,0⟩,⟨1,1,2^35,2^31,0⟩,⟨16,17,2^36,2^35,0⟩,⟨47,63,2^37,(2^32+2^36),0⟩,⟨79,127,0,(2^34+2^37),3⟩] 4 [(0,0),(1,0),(2,1),(3,0),(4,0),(5,0),(6,0),(7,3)] (by kernel_rfl) (by kernel_rfl) (by kernel_rfl) (by kernel_rfl) (by kernel_rfl) (by kernel_rfl) (λc a d v w h=>by cases d <;> exact h) ?_;refine aj ?_;refine aj ?_;refine jR [_,_,_] Tryz.underlying46 ?_
 try refine aC ?_;refine aj ?_;refine aj ?_;refine aj ?_;refine aj ?_
 refine fA λK hK=>?_;go_wp2_with (fail);refine hK.out _ _ ?_;clear hK K
 try refine aC ?_
 refine aD ?_;go_wp2;go_ret2;refine ⟨rfl,?_,((((((ah.refl _ w).set1 _ _).set1 _ _).set1 _ _).set1 _ _).alloc _).drew⟩;have:=HD.out.DV k (h % 128) hk (by omega) ⟨x0,x1,h⟩;rw [HK.out] at this;exact (this.alloc _).drew
theorem agQ (R m:Nat) (i:Int) (s:Nat->ai) (x0 x1 x2:Int) (hf:cK m i false≠0) (w:World) (hd:DW w R m s) :
 Calls Tryz.prog 124 #[.pointer (some ⟨R,0,none⟩),.int .i64 i,.agg #[.int .u64 x0,.int .u64 x1,.int .u64 x2]] w λe w' =>
  e = .returned (.tuple #[.bool false,.int .i64 ((cK m i false:Nat):Int)])/\Below w.heap.size w w':=by
 have hl:=hd.lt;by_cases QO:i<0\/8<=i
 . rw [Ch m i false QO];clear hf;by_cases h0:i<0
   . have d0:decide (i<0)=true:=by simpa using h0
     clear h0 QO hd;go_enter Tryz.func124,Tryz.ntmps124
     go_wp2;go_ret2;exact ⟨rfl,by go_grown⟩
   . have d0:decide (i<0)=false:=by simpa using h0
     have d7:decide (i > 7)=true:=by simp;omega
     clear h0 QO hd;go_enter Tryz.func124,Tryz.ntmps124
     go_wp2;go_ret2;exact ⟨rfl,by go_grown⟩
 obtain ⟨k,rfl⟩:∃k:Nat,i=(k:Int):=⟨i.toNat,by omega⟩
 have hk:k<8:=by omega
 rw [jf m k false hk] at hf ⊢;have hq:¬decide (ln m k<128)=false:=λc=>hf (if_pos c);rw [if_neg hq];have hfl:bC m k=true:=by rw [eO];simpa using hq
 have k3:=Lj m k;rw [hfl] at k3;obtain ⟨c0,c1,c2,c3⟩:=hd.cells k hk;have d0:decide ((k:Int)<0)=false:=by simp
 have d7:decide ((k:Int) > 7)=false:=by simp;omega
 have hk8:(k:Int)<8:=by omega
 clear hf hq hfl QO hd;generalize hkn:dD (ln m k)=kn at *
 clear hkn;go_enter Tryz.func124,Tryz.ntmps124
 go_wp2;go_ret2;exact ⟨rfl,by go_grown⟩
theorem ab9 (R m k:Nat) (s:Nat->ai) (v:Int) (hk:k<8) (hf:cK m (k:Int) true=0) (w:World) (hd:DW w R m s) :
 Calls Tryz.prog 122 #[.pointer (some ⟨R,0,none⟩),.int .i64 (k:Int),.int .u64 v] w λe w' =>
  e = .returned (.int .i64 0)/\DW w' R m (eY s k { s k with val:=v})/\ah (λb=>b=R) w w':=by
 have hl:=hd.lt
 have hfl:bC m k=true:=by
  rw [jf m k true hk] at hf;rw [eO];by_cases c:ln m k<128
  . exact c
  . rw [if_neg (by simpa using c)] at hf;cases hf
 obtain ⟨c0,c1,c2,c3⟩:=hd.cells k hk;have hfw:=hd.frozen;have k3:=Ex m k;rw [hfl] at k3;have HD:=aa hd;have d0:decide ((k:Int)<0)=false:=by simp
 have d7:decide ((k:Int) > 7)=false:=by simp;omega
 have hk8:(k:Int)<8:=by omega
 clear hf hfl hd;generalize hkn:dD (ln m k)=kn at *
 clear hkn;go_enter Tryz.func122,Tryz.ntmps122
 go_wp2;go_ret;exact ⟨rfl,HD.out.Nk k hk v,(ah.refl _ w).set1 _ _⟩
theorem Ir (R m k:Nat) (s:Nat->ai) (hk:k<8) (hf:cK m (k:Int) true=0) (w:World) (hd:DW w R m s) :
 Calls Tryz.prog 125 #[.pointer (some ⟨R,0,none⟩),.int .i64 (k:Int)] w λe w' =>
  e = .returned (.tuple #[.bool (!bR m),.int .i64 0])/\DW w' R (fB m k (dB m)) (eY s k ai.zero)/\ah (λb=>b=R) w w':=by
 have hfl:bC m k=true:=by
  rw [jf m k true hk] at hf;rw [eO];by_cases c:ln m k<128
  . exact c
  . rw [if_neg (by simpa using c)] at hf;cases hf
 clear hf;by_cases ho:bR m=true
 . rw [ho];show Calls _ _ _ _ λe w'=>e = .returned (.tuple #[.bool false,.int .i64 0])/\_
   have hl:=hd.lt;obtain ⟨c0,c1,c2,c3⟩:=hd.cells k hk;have hfw:=hd.frozen;have k3:=Ex m k;rw [hfl] at k3;have CT:=kC R m 1 s;have hcz:decide (((aV m 1:Nat):Int) > 0)=bR m:=by rw [ko,Bool.eq_iff_iff];simp
   rw [ho] at hcz;have HG:dB m=128:=by unfold dB;rw [ho];rfl
   have HGN:=aa HG;have CTH:=aa (λw' (hb:Below w.heap.size w w')=>CT w' (hd.below hb hd.lt));have HD:=aa hd;have d0:decide ((k:Int)<0)=false:=by simp
   have d7:decide ((k:Int) > 7)=false:=by simp;omega
   have hk8:(k:Int)<8:=by omega
   clear hfl hd HG ho CT;generalize ((aV m 1:Nat):Int)=cn at *
   generalize hkn:dD (ln m k)=kn at *
   clear hkn;go_enter Tryz.func125,Tryz.ntmps125
   go_wp2_with (go_at_call 164;refine (CTH.out _ (by go_grown)).mono ?_;rintro e w1 ⟨rfl,hb1⟩;have hB1:Below w.heap.size w w1:=(by exact hb1);have hcR:=λ(o:Nat)=>hb1.cell (p:=⟨R,o,none⟩) (by assumption);have hfR:=λ(o:Nat)=>hb1.frozen (p:=⟨R,o,none⟩) (by assumption);have hzR:R<w1.heap.size:=bM (by assumption) hb1.size)
   go_ret2;refine ⟨rfl,?_,((((ah.of_below hB1).set1 _ _).set1 _ _).set1 _ _).set1 _ _⟩;have:=(HD.out.below hB1 hl).DV k (dB m) hk (kK m) ai.zero;rw [HGN.out] at this ⊢;exact this
 . replace ho:bR m=false:=by simpa using ho
   rw [ho];show Calls _ _ _ _ λe w'=>e = .returned (.tuple #[.bool true,.int .i64 0])/\_
   have hl:=hd.lt;obtain ⟨c0,c1,c2,c3⟩:=hd.cells k hk;have hfw:=hd.frozen;have k3:=Ex m k;rw [hfl] at k3;have CT:=kC R m 1 s;have hcz:decide (((aV m 1:Nat):Int) > 0)=bR m:=by rw [ko,Bool.eq_iff_iff];simp
   rw [ho] at hcz;have HG:dB m=254:=by unfold dB;rw [ho];rfl
   have HGN:=aa HG;have CTH:=aa (λw' (hb:Below w.heap.size w w')=>CT w' (hd.below hb hd.lt));have HD:=aa hd;have d0:decide ((k:Int)<0)=false:=by simp
   have d7:decide ((k:Int) > 7)=false:=by simp;omega
   have hk8:(k:Int)<8:=by omega
   clear hfl hd HG ho CT;generalize ((aV m 1:Nat):Int)=cn at *
   generalize hkn:dD (ln m k)=kn at *
   clear hkn;go_enter Tryz.func125,Tryz.ntmps125
   go_wp2_with (go_at_call 164;refine (CTH.out _ (by go_grown)).mono ?_;rintro e w1 ⟨rfl,hb1⟩;have hB1:Below w.heap.size w w1:=(by exact hb1);have hcR:=λ(o:Nat)=>hb1.cell (p:=⟨R,o,none⟩) (by assumption);have hfR:=λ(o:Nat)=>hb1.frozen (p:=⟨R,o,none⟩) (by assumption);have hzR:R<w1.heap.size:=bM (by assumption) hb1.size)
   go_ret2;refine ⟨rfl,?_,((((ah.of_below hB1).set1 _ _).set1 _ _).set1 _ _).set1 _ _⟩;have:=(HD.out.below hB1 hl).DV k (dB m) hk (kK m) ai.zero;rw [HGN.out] at this ⊢;exact this
theorem OD (R m:Nat) (i:Int) (s:Nat->ai) (hf:cK m i true≠0) (w:World) (hd:DW w R m s) :
 Calls Tryz.prog 125 #[.pointer (some ⟨R,0,none⟩),.int .i64 i] w λe w' =>
  e = .returned (.tuple #[.bool false,.int .i64 ((cK m i true:Nat):Int)])/\Below w.heap.size w w':=by
 have hl:=hd.lt;by_cases QO:i<0\/8<=i
 . rw [Ch m i true QO];clear hf;by_cases h0:i<0
   . have d0:decide (i<0)=true:=by simpa using h0
     clear h0 QO hd;go_enter Tryz.func125,Tryz.ntmps125
     go_wp2;go_ret2;exact ⟨rfl,by go_grown⟩
   . have d0:decide (i<0)=false:=by simpa using h0
     have d7:decide (i > 7)=true:=by simp;omega
     clear h0 QO hd;go_enter Tryz.func125,Tryz.ntmps125
     go_wp2;go_ret2;exact ⟨rfl,by go_grown⟩
 obtain ⟨k,rfl⟩:∃k:Nat,i=(k:Int):=⟨i.toNat,by omega⟩
 have hk:k<8:=by omega
 rw [jf m k true hk] at hf ⊢;have hq:¬decide (ln m k<128)=true:=λc=>hf (if_pos c);rw [if_neg hq];have hfl:bC m k=false:=by rw [mi];simpa using hq
 have k3:=Ex m k;rw [hfl] at k3;obtain ⟨c0,c1,c2,c3⟩:=hd.cells k hk;have d0:decide ((k:Int)<0)=false:=by simp
 have d7:decide ((k:Int) > 7)=false:=by simp;omega
 have hk8:(k:Int)<8:=by omega
 clear hf hq hfl QO hd;generalize hkn:dD (ln m k)=kn at *
 clear hkn;go_enter Tryz.func125,Tryz.ntmps125
 go_wp2;go_ret2;exact ⟨rfl,by go_grown⟩
def aR (m:Nat) (s:Nat->ai) (i:Int) (e:ai):Nat->ai:=if cK m i false=0 then eY s i.toNat e else s
def bB (m:Nat) (i:Int):Bool:=cK m i false == 0 && ln m i.toNat == 254
def ab5 (m:Nat) (i:Int):Nat:=if cK m i true=0 then fB m i.toNat (dB m) else m
def ab4 (m:Nat) (s:Nat->ai) (i:Int):Nat->ai:=if cK m i true=0 then eY s i.toNat ai.zero else s
def aem (m:Nat) (i:Int):Bool:=cK m i true == 0 && !bR m
theorem OE (R m:Nat) (i:Int) (s:Nat->ai) (w:World) (hd:DW w R m s) :
 Calls Tryz.prog 125 #[.pointer (some ⟨R,0,none⟩),.int .i64 i] w λe w' =>
  e = .returned (.tuple #[.bool (aem m i),.int .i64 ((cK m i true:Nat):Int)])/\DW w' R (ab5 m i) (ab4 m s i)/\ah (λb=>b=R) w w':=by
 unfold ab5 ab4 aem;by_cases hf:cK m i true=0
 . obtain ⟨k,rfl,hk,-⟩:=oI hf;rw [if_pos hf,if_pos hf,hf,Int.toNat_natCast];refine (Ir R m k s hk hf w hd).mono ?_;rintro e w' ⟨rfl,h1,h2⟩
   exact ⟨rfl,h1,h2⟩
 . rw [if_neg hf,if_neg hf,show (cK m i true == 0)=false by simpa using hf];refine (OD R m i s hf w hd).mono ?_;rintro e w' ⟨rfl,hb⟩
   exact ⟨rfl,hd.below hb hd.lt,ah.of_below hb⟩
attribute [local go_sem] neq_nilG
theorem Oh (G o M:Nat) (mt:aG) (x y z:Int) (w:World) (hM:af w M 37 mt.cells) :
 Calls Tryz.prog 88 #[.pointer (some ⟨G,o,none⟩),.agg #[.pointer (some ⟨M,0,none⟩),.int .i64 x,.int .i64 y,.int .i64 z]] w λe w'=>e = .returned (.agg #[.pointer (some ⟨G,o,none⟩)])/\af w' M 37 (mt.add x y z).cells/\ah (λb=>b=M) w w':=abY G o M mt x y z w hM
theorem ET (G o:Nat) (x y z:Int) (w:World) :
 Calls Tryz.prog 88 #[.pointer (some ⟨G,o,none⟩),.agg #[.pointer none,.int .i64 x,.int .i64 y,.int .i64 z]] w λe w'=>e = .returned (.agg #[.pointer (some ⟨G,o,none⟩)])/\Below w.heap.size w w':=Og G o x y z w
theorem eql_nilG (w:World):(binOp .eql 27 .nilIface .nilIface).run Tryz.prog w = .ok (.bool true) w:=run_eql_nil_nil _ _ (by kernel_rfl)
attribute [local go_sem] eql_nilG
end Go.Proofs.YtolhmibejhldkaaGreatDoor
namespace Go.Proofs.YtolhmibejhldkaaGreatDoor
open Go.RowKit Go.Proofs
theorem Fh {f g:Nat->Bool} {k:Nat} (hf:f k=false) (hg:g k=true) (h:∀i,i≠k->g i=f i):∀ {l:List Nat},l.Nodup->k∈l->(l.filter g).length=(l.filter f).length+1
 | [],_,hk=>by cases hk
 | a :: l,hn,hk=>by
  have hn':=List.nodup_cons.1 hn;by_cases e:a=k
  . subst e;have hs:l.filter g=l.filter f:=List.filter_congr λi hi=>h i (λe=>hn'.1 (e▸hi));rw [List.filter_cons_of_pos hg,List.filter_cons_of_neg (by rw [hf];simp),hs];rfl
  . have hk':k∈l:=by
     rcases List.mem_cons.1 hk with e'|h'
     . exact absurd e'.symm e
     . exact h'
    have ih:=Fh hf hg h hn'.2 hk';cases c:f a
    . rw [List.filter_cons_of_neg (by rw [h a e,c];simp),List.filter_cons_of_neg (by rw [c];simp),ih]
    . rw [List.filter_cons_of_pos (by rw [h a e,c]),List.filter_cons_of_pos c,List.length_cons,List.length_cons,ih]
theorem qK {f g:Nat->Bool} {k:Nat} (hk:k<8) (hf:f k=false) (hg:g k=true) (h:∀i,i≠k->i<8->g i=f i):(aI g).length=(aI f).length+1:=by
 have e:aI g=aI (λi=>if i=k then true else f i):=lh λi hi=>by
  by_cases c:i=k
  . subst c;rw [if_pos rfl,hg]
  . rw [if_neg c,h i c hi]
 rw [e];exact Fh hf (if_pos rfl) (λi hi=>if_neg hi) List.nodup_range (by simpa using hk)
theorem Dc {m k:Nat} (hk:k<8) (h:cK m (k:Int) false=0):bC m k=false:=by
 obtain ⟨j,e,hj,hd⟩:=oI h;obtain rfl:k=j:=by omega
 rw [mi];simpa using hd
theorem mo {m k:Nat} (hk:k<8) (h:cK m (k:Int) true=0):bC m k=true:=by
 obtain ⟨j,e,hj,hd⟩:=oI h;obtain rfl:k=j:=by omega
 rw [eO];simpa using hd
theorem pU (m k q i:Nat) (hq:q<128) (hi:i<8):bC (fB m k q) i=if i=k then true else bC m i:=by
 by_cases e:i=k
 . rw [if_pos e,eO,jJ m k q i (by omega) hi,if_pos e];exact hq
 . rw [if_neg e,Bool.eq_iff_iff,eO,eO,jJ m k q i (by omega) hi,if_neg e]
theorem lJ (m k i:Nat) (hi:i<8):bC (fB m k (dB m)) i=if i=k then false else bC m i:=by
 by_cases e:i=k
 . rw [if_pos e,mi,jJ m k _ i (kK m) hi,if_pos e];exact ES m
 . rw [if_neg e,Bool.eq_iff_iff,eO,eO,jJ m k _ i (kK m) hi,if_neg e]
theorem RJ {m k:Nat} (q:Nat) (hk:k<8) (hq:q<128) (h:cK m (k:Int) false=0):(aI (bC (fB m k q))).length=(aI (bC m)).length+1 :=
 qK hk (Dc hk h) (by rw [pU m k q k hq hk,if_pos rfl]) (λi hi h8=>by rw [pU m k q i hq h8,if_neg hi])
theorem Md {m k:Nat} (hk:k<8) (h:cK m (k:Int) true=0):(aI (bC m)).length=(aI (bC (fB m k (dB m)))).length+1 :=
 qK hk (by rw [lJ m k k hk,if_pos rfl]) (mo hk h) (λi hi h8=>by rw [lJ m k i h8,if_neg hi])
theorem Fg (s:Nat->ai) (key:Int) (f:Nat->Bool):(eP s key (aI f) = -1/\∀j,j<8->f j=true->(s j).key≠key)\/∃k:Nat,eP s key (aI f)=(k:Int)/\k<8/\f k=true/\(s k).key=key/\∀j,j<k->f j=true->(s j).key≠key:=by
 rw [Il];rcases rW (λi=>f i && (s i).key == key) with ⟨h1,h2⟩ | ⟨k,h1,h2,h3,h4⟩
 . exact .inl ⟨h1,λj hj hf e=>by have:=h2 j hj;simp [hf,e] at this⟩
 . simp only [Bool.and_eq_true,beq_iff_eq] at h3;exact .inr ⟨k,h1,h2,h3.1,h3.2,λj hj hf e=>by have:=h4 j hj;simp [hf,e] at this⟩
theorem Eh (m:Nat):bR m=true↔∃i,i<8/\ln m i=128:=by
 unfold bR aU;simp
theorem UG {m k:Nat} (q:Nat) (hq:q<128) (h:bR m=false):bR (fB m k q)=false:=by
 rw [<-Bool.not_eq_true,Eh] at h ⊢;rintro ⟨i,hi,e⟩
 rw [jJ m k q i (by omega) hi] at e;by_cases c:i=k
 . rw [if_pos c] at e;omega
 . rw [if_neg c] at e;exact h ⟨i,hi,e⟩
theorem RQ {m k:Nat} (h:bR m=false):bR (fB m k (dB m))=false:=by
 have hg:dB m=254:=by unfold dB;rw [h];rfl
 rw [hg];rw [<-Bool.not_eq_true,Eh] at h ⊢;rintro ⟨i,hi,e⟩
 rw [jJ m k 254 i (by omega) hi] at e;by_cases c:i=k
 . rw [if_pos c] at e;omega
 . rw [if_neg c] at e;exact h ⟨i,hi,e⟩
attribute [local go_sem] Oper.semAt_some wide_depth round_depth wide_fn round_fn
theorem Uh (f:Nat->Bool) (s:Nat->ai) (i:Nat):cB ((List.range (i+1)).map (λj=>s (bT f j)))=cB ((List.range i).map (λj=>s (bT f j))) ++ [.int .u64 (s (bT f i)).key,.int .u64 (s (bT f i)).val,.int .u64 (s (bT f i)).hash]:=by
 rw [List.range_succ,List.map_append,kP];rfl
theorem ack (f:Nat->Bool) (s:Nat->ai):(List.range (aI f).length).map (λj=>s (bT f j))=(aI f).map s:=by
 apply List.ext_getElem
 . simp
 . intro i h1 h2;simp only [List.length_map,List.length_range] at h1;simp only [List.getElem_map,List.getElem_range];unfold bT;rw [List.getD_eq_getElem?_getD,List.getElem?_eq_getElem h1];rfl
theorem Bp (G o m:Nat) (s:Nat->ai) (hm:m<18446744073709551616) (w:World) (hg:GW w G o m s) (hT:iB w) :
 Calls Tryz.prog 129 #[.agg #[.pointer (some ⟨G,o,none⟩)]] w λe w' => ∃v,e = .returned v/\w'.ownsRow w.heap.size 46 3 v (aS m s).length (cB (aS m s))/\Below w.heap.size w w':=by
 obtain ⟨i0,hi,hz0,hz1,hz2⟩:=info_parts acI;have HG:=aa hg;have HT:=aa hT;have hl:=hg.lt;have hl1:G<w.heap.size+1:=by omega
 have c0:=hg.word;have FU:=aa (Qj m hm);have HQ:=aa (lW (bC m));have HF:=aa (lX (bC m));unfold aS;obtain ⟨f,hf⟩:=dC (bC m);rw [<-hf] at FU HQ HF ⊢;generalize hQ:bQ f=Q at *
 refine (callsIn_wide (n:=0)).1 ?_;refine callsIn_of_wp_marks Tryz.func129 rfl trivial ?_;simp only [Tryz.ntmps129,List.size_toArray,List.length_cons,List.length_nil,Nat.reduceAdd,Nat.reduceSub,Array.replicate_succ,Array.replicate_zero,List.push_toArray,List.append_toArray,List.nil_append,List.cons_append];refine wpIn_wide.2 ?_;clear hg hT hf hQ
 go_wp2_with (first|(go_at_call 167;refine (FU.out _).mono ?_;rintro e w' ⟨rfl,rfl⟩)|(go_at_call 143;refine (Ic _ _).mono ?_;rintro e w' ⟨rfl,rfl⟩))
 refine bG (λwL og=>?_);have q0:af wL w.heap.size 96 #[.pointer (some ⟨G,o,none⟩)]:=by rw [og];exact ((af.new w _ _).alloc _).alloc _
 have q1:af wL (w.heap.size+1) 68 #[.slice none 0 0]:=by rw [og];exact (af.aF (by simp)).alloc _
 have q3:af wL (w.heap.size+1+1) 38 #[.int .u64 (Q:Int)]:=by rw [og];exact af.aF (by simp)
 have qB:Below w.heap.size w wL:=by rw [og];go_grown
 have qz:wL.heap.size=w.heap.size+1+1+1:=by rw [og];simp
 have hgv:=CY Q HQ.out (w.heap.size+1+1) wL (q3.cell 0) (HT.out.below qB);have hgl:16<w.heap.size:=qx _ _ (HT.out 0 (by decide));have hL:aI (fF Q)=aI f:=lh HF.out;have hLa:∀i,bT (fF Q) i=bT f i:=λi=>by unfold bT;rw [hL]
 simp only [hL,hLa] at hgv;have HGV:=aa hgv;have hN:=Ew f;have HS:=aa (Uh f s);have HAE:=aa (ack f s);clear og hgv hL hLa;refine (wpIn_wide (n:=0)).1 ?_
 refine rM rfl Br HGV.out (λb hb=>by rcases hb with rfl|rfl <;> omega) (λ_=>rfl)
  (λi W=>(∃v,Boxed W (w.heap.size+1) 68 v/\W.ownsRow wL.heap.size 46 3 v i (cB ((List.range i).map (λj=>s (bT f j))))/\True)/\af W w.heap.size 96 #[.pointer (some ⟨G,o,none⟩)]/\af W (w.heap.size+1+1) 38 #[.int .u64 (Q:Int)]/\Below w.heap.size w W)
  (λ_ _=>False)
  (OwnFrom.and (Own.from (holdsRow_own wL.heap.size (w.heap.size+1) 68 46 3 (λi=>i) (λi=>cB ((List.range i).map (λj=>s (bT f j)))) (λ_ _=>True)) _) (OwnFrom.and (Own.from (mX _ _ _) _) (OwnFrom.and (Own.from (mX _ _ _) _) (ownFrom_below (aL _) (by omega)))))
  (λ_ _ _ _ hs _ _=>hs)
  ⟨⟨_,q1,⟨rfl,.inl ⟨rfl,rfl⟩⟩,trivial⟩,q0,q3,qB⟩
  (λT i a _=>a = { tmps:=(T.setIfInBounds 12 (.int .i64 ((bT f i:Nat):Int))).setIfInBounds 4 (.int .i64 ((bT f i:Nat):Int)),defers := []})
  ?assign (λ_ _ _ _ hs _ _=>hs) ?body ?done ?stop
 case assign =>
  intro l i W K hi hlt _ hK
  gi_wp2
  exact hK _ _ (KeepsFrom.refl _ _) (Same.refl _ _) hi rfl
 case body =>
  rintro l i a₁ W ⟨⟨v,hv,hrow,-⟩,p0,p3,hB⟩ hlt hsz rfl
  simp only [List.setIfInBounds_toArray,List.set_cons_succ,List.set_cons_zero]
  have hx8:bT f i<8:=by
   have hla:bT f i=(aI f)[i]:=by unfold bT;rw [List.getD_eq_getElem?_getD,List.getElem?_eq_getElem hlt];rfl
   rw [hla];exact (jl.1 (List.getElem_mem hlt)).1
  obtain ⟨s0,s1,s2⟩:=(HG.out.below hB hl).slot (bT f i) hx8;have e0:=p0.boxed.cell;obtain ⟨av,cv,rfl⟩:=bZ hrow;have hc:=hv.cell;have hx9:((bT f i:Nat):Int)<8:=by omega
  have hz:=hB.size;have HV:=aa hv;have HR:=aa hrow;have H0:=aa p0;have H3:=aa p3;clear hv hrow p0 p3
  gi_wp2
  refine gQ (λ_=>False) #[⟨0,0,8192,8,1⟩,⟨0,0,2^14,2,0⟩,⟨2,2,2^15,2^14,1⟩,⟨0,0,2^16,16,0⟩,⟨4,6,2^17,2^15,0⟩,⟨16,22,2^18,2^17,0⟩,⟨40,62,2^19,(2^16+2^18),0⟩,⟨64,126,2^20,2^19,1⟩,⟨128,254,2^21,2^20,2⟩,⟨257,511,2^22,(2^13+2^21),3⟩,⟨1023,1023,0,(2^3+2^22),3⟩] 133 [(0,1),(1,0),(2,1),(3,0),(4,0),(5,0),(6,0),(7,1),(8,2),(9,3),(10,3)] (by kernel_rfl) (by kernel_rfl) (by kernel_rfl) (by kernel_rfl) (by kernel_rfl) (by kernel_rfl) (λc a d v w h=>by cases d <;> exact h) (by kernel_rfl) (by rintro ⟨a,w,h⟩;exact h) ?_;refine bW Tryz.underlying68 ?_
  try refine aC ?_;refine aj ?_
  refine bW Tryz.underlying94 ?_
  try refine aC ?_;refine aj ?_;refine aj ?_;refine aj ?_;refine aj ?_
  refine jR [_,_,_] Tryz.underlying46 ?_
  try refine aC ?_
  refine iK λK hK=>?_;go_wp2_with (fail);refine eQ hK (h:=?_);clear hK K
  try refine aC ?_
  refine fA λK hK=>?_;(refine aQ _ _ 68 rfl wL.heap.size 46 i0 (.agg #[.int .u64 0,.int .u64 0,.int .u64 0]) 3 24 Tryz.underlying68 hi hz0 hz1 hz2 rfl (by decide) _ _ _ rfl (show (World.drew (W.alloc _)).ownsRow _ _ _ _ _ _ from HR.out.alloc _) ⟨W.heap.size,0,none⟩ 1 1 [.int .u64 (s (bT f i)).key,.int .u64 (s (bT f i)).val,.int .u64 (s (bT f i)).hash] rfl rfl (iO W _ _ _ _) (by simp [Value.oneCell']) (by unfold maxLen;omega) (by omega) (by simp;omega) (by decide) ?_;intro v' w1 hown' Vi _;have hgrow:=JN Vi;clear Vi;obtain ⟨g',cap',rfl⟩:=ownsRow_succ hown';obtain ⟨hv1,hv2,hr2,hk2,hb2⟩:=Tw (n₀:=w.heap.size) HV.out (by decide) HR.out (by omega) (by omega) (by omega) hown' hgrow;have hk3:=aa (((H0.out.alloc _).kept hgrow (own_ne HR.out (by omega))).other (B':=w.heap.size+1) (by omega) 0 (.slice (some ⟨g',0,none⟩) (i+1) cap'));have hk4:=aa (((H3.out.alloc _).kept hgrow (own_ne HR.out (by omega))).other (B':=w.heap.size+1) (by omega) 0 (.slice (some ⟨g',0,none⟩) (i+1) cap'));have hc1:=hv1.cell;have hf1:=hv1.frozen);refine hK.out _ _ ?_;clear hK K
  try refine aC ?_
  refine fA λK hK=>?_;go_wp2_with (fail);refine hK.out _ _ ?_;clear hK K
  try refine aC ?_
  refine aD ?_
  gi_wp2
  refine ⟨hk2.from _,?_,⟨_,hv2,by rw [HS.out];exact hr2,trivial⟩,hk3.out,hk4.out,hB.trans hb2⟩;rintro b (rfl|rfl)
  . exact (show _=_ from hk4.out).trans (show _=_ from H3.out).symm
  . exact hb2.block _ hgl
 case done =>
  rintro D W hD ⟨⟨v,hv,hrow,-⟩,p0,p3,hB⟩ hK
  have hc:=hv.cell;have HK:=aa hK;rw [HAE.out] at hrow;have HR:=aa (ownsRow_putObj (fU hrow (show w.heap.size<=wL.heap.size by omega)) (.deferred none) hK rfl);clear hK hrow hv;go_wp2;refine ⟨by simp,.inl ⟨_,_,rfl,run_takeDeferred HK.out,?_⟩⟩;refine ⟨_,results_tmp rfl _ _ _,v,rfl,?_,hB.trans (gP _ (by omega) HK.out)⟩;rw [List.length_map];exact HR.out
 case stop =>
  rintro D c W hD h _
  exact h.elim
end Go.Proofs.YtolhmibejhldkaaGreatDoor
