/- Joined texts; conditions within. -/
import Derived.Test.YtolhmibejhldkaaGreatDoorPkGroup
set_option linter.unusedVariables false
set_option linter.unusedSimpArgs false
set_option maxRecDepth 100000
set_option maxHeartbeats 8000000
namespace Go.Proofs.YtolhmibejhldkaaGreatDoor
open Go.RowKit Go.Proofs
theorem fu (n:Int) (w:World) :
 Calls Tryz.prog 104 #[.int .i64 n] w λe w'=>e = .returned (.bool (aN n))/\w=w':=by
 by_cases h1:1<=n
 . by_cases h2:n<=64
   . go_enter Tryz.func104,Tryz.ntmps104
     go_wp2;go_ret;refine ⟨?_,rfl⟩;show Ending.returned (.bool _)=_
     rw [KH n h1 h2]
   . have hr:aN n=false:=by
      rw [Bool.eq_false_iff,ne_eq,dG];omega
     have hr':=aa hr;clear hr;go_enter Tryz.func104,Tryz.ntmps104
     go_wp2;go_ret;exact ⟨by rw [hr'.out];rfl,rfl⟩
 . have hr:aN n=false:=by
    rw [Bool.eq_false_iff,ne_eq,dG];omega
   have hr':=aa hr;clear hr;go_enter Tryz.func104,Tryz.ntmps104
   go_wp2;go_ret;exact ⟨by rw [hr'.out];rfl,rfl⟩
attribute [local go_sem] neq_nilG
structure TW (w:World) (B Q n:Nat) (M:Nat->Nat) (S:Nat->Nat->ai) (lv tb:Int):Prop where
 head:af w B 143 #[.slice (some ⟨Q,0,none⟩) n n,.int .i64 lv,.int .i64 tb]
 ne:B≠Q
 at':∀i,i<n->GW w Q (i*25) (M i) (S i)
 lt:Q<w.heap.size
theorem TW.below {k:Nat} {w w':World} {B Q n:Nat} {M:Nat->Nat} {S:Nat->Nat->ai} {lv tb:Int} (h:TW w B Q n M S lv tb) (hb:Below k w w') (hB:B<k) (hQ:Q<k):TW w' B Q n M S lv tb :=
 ⟨h.head.below hb hB,h.ne,λi hi=>(h.at' i hi).below hb hQ,by
  have:=hb.size
  exact bM h.lt this⟩
theorem TW.later {w w':World} {B Q n:Nat} {M:Nat->Nat} {S:Nat->Nat->ai} {lv tb:Int} (h:TW w B Q n M S lv tb) (hb:Below w.heap.size w w'):TW w' B Q n M S lv tb:=h.below hb h.head.lt h.lt
theorem TW.aA {X:Nat->Prop} {w w':World} {B Q n:Nat} {M:Nat->Nat} {S:Nat->Nat->ai} {lv tb:Int} (h:TW w B Q n M S lv tb) (hc:ah X w w') (hB:¬X B) (hQ:¬X Q):TW w' B Q n M S lv tb :=
 ⟨h.head.aA hc hB,h.ne,λi hi=>(h.at' i hi).aA hc hQ,bM h.lt hc.size⟩
theorem TW.group {w w':World} {B Q n i m:Nat} {s:Nat->ai} {M:Nat->Nat} {S:Nat->Nat->ai} {lv tb:Int} (h:TW w B Q n M S lv tb) (hg:GW w' Q (i*25) m s) (hc:iU Q (i*25) w w') :
 TW w' B Q n (λj=>if j=i then m else M j) (λj=>if j=i then s else S j) lv tb :=
 ⟨h.head.aA hc.aA h.ne,h.ne,λj hj=>by
  by_cases e:j=i
  . subst e;simp only [if_pos rfl];exact hg
  . simp only [if_neg e];exact (h.at' j hj).ajF hc (by omega),bM h.lt hc.aA.size⟩
def di (q:Option Addr) (lp:Option Nat):Prop:=(lp=none/\q=none)\/∃M,lp=some M/\q=some ⟨M,0,none⟩
def LW (w:World) (lp:Option Nat) (mt:aG):Prop := ∀M,lp=some M->af w M 37 mt.cells
theorem LW.later {w w':World} {lp:Option Nat} {mt:aG} (h:LW w lp mt) (hb:Below w.heap.size w w'):LW w' lp mt:=λM e=>(h M e).below hb (h M e).lt
theorem LW.aA {X:Nat->Prop} {w w':World} {lp:Option Nat} {mt:aG} (h:LW w lp mt) (hc:ah X w w') (hX:∀M,lp=some M->¬X M):LW w' lp mt:=λM e=>(h M e).aA hc (hX M e)
theorem Cg (G o:Nat) (q:Option Addr) (lp:Option Nat) (hq:di q lp) (mt:aG) (x y z:Int) (w:World) (hL:LW w lp mt) :
 Calls Tryz.prog 88 #[.pointer (some ⟨G,o,none⟩),.agg #[.pointer q,.int .i64 x,.int .i64 y,.int .i64 z]] w λe w'=>e = .returned (.agg #[.pointer (some ⟨G,o,none⟩)])/\LW w' lp (mt.add x y z)/\ah (λb=>lp=some b) w w':=by
 rcases hq with ⟨rfl,rfl⟩ | ⟨M,rfl,rfl⟩
 . refine (ET G o x y z w).mono ?_;rintro e w' ⟨rfl,hb⟩
   exact ⟨rfl,λM e=>(by cases e),ah.of_below hb⟩
 . refine (Oh G o M mt x y z w (hL M rfl)).mono ?_;rintro e w' ⟨rfl,h1,h2⟩
   exact ⟨rfl,λM' e=>(by cases e;exact h1),h2.mono (λi _ hi=>by rw [hi])⟩
theorem Hg (B Q n:Nat) (lv tb:Int) (hn:n<=64) (h1:0<=lv/\lv<=1000) (h2:0<=tb/\tb<=1000) (w:World) (hb:af w B 143 #[.slice (some ⟨Q,0,none⟩) n n,.int .i64 lv,.int .i64 tb]) :
 Calls Tryz.prog 100 #[.pointer (some ⟨B,0,none⟩)] w λe w'=>e = .returned (.int .i64 (7*(n:Int)-lv-tb))/\Below w.heap.size w w':=by
 have c0:=hb.cell 0;have c1:=hb.cell 1;have c2:=hb.cell 2;have hl:=hb.lt;have e1:IntKind.i64.wrap (7*(n:Int))=7*(n:Int):=by rw [IntKind.wrap_i64];omega
 have e2:IntKind.i64.wrap (7*(n:Int)-lv)=7*(n:Int)-lv:=by rw [IntKind.wrap_i64];omega
 have e3:IntKind.i64.wrap (7*(n:Int)-lv-tb)=7*(n:Int)-lv-tb:=by rw [IntKind.wrap_i64];omega
 clear hb;go_enter Tryz.func100,Tryz.ntmps100
 go_wp2;refine ag (λ_=>False) #[⟨0,0,8,1,0⟩,⟨1,1,16,8,0⟩,⟨2,3,32,16,0⟩,⟨4,7,64,32,1⟩,⟨8,15,128,64,0⟩,⟨16,31,256,128,0⟩,⟨0,0,512,1,0⟩,⟨64,64,1024,512,0⟩,⟨128,192,2048,1024,0⟩,⟨256,448,4096,2048,1⟩,⟨544,1023,8192,4352,0⟩,⟨0,0,2^14,1,0⟩,⟨2048,2048,2^15,2^14,0⟩,⟨4096,6144,2^16,2^15,0⟩,⟨8192,(2^11+2^12+2^13),2^17,2^16,1⟩,⟨(2^10+2^14),32767,2^18,(2^13+2^17),0⟩,⟨65535,65535,4,2^18,0⟩] (2^3+2^9+2^14) [(0,0),(1,0),(2,0),(3,1),(4,0),(5,0),(6,0),(7,0),(8,0),(9,1),(10,0),(11,0),(12,0),(13,0),(14,1),(15,0),(16,0)] (by kernel_rfl) (by kernel_rfl) (by kernel_rfl) (by kernel_rfl) (by kernel_rfl) (by kernel_rfl) (λc a d v w h=>by cases d <;> exact h) ?_;refine aj ?_;refine aj ?_;refine aj ?_;refine bW Tryz.underlying141 ?_
 try refine aC ?_;refine aj ?_;refine aj ?_;refine aj ?_;refine aj ?_;refine aj ?_
 refine bW Tryz.underlying3 ?_
 try refine aC ?_;refine aj ?_;refine aj ?_;refine aj ?_;refine aj ?_
 refine bW Tryz.underlying3 ?_
 try refine aC ?_;refine aj ?_;refine aj ?_
 refine aD ?_;go_wp2;go_ret;exact ⟨rfl,(aM _ _).drew⟩
theorem Ug (B:Nat) (v:Value) (lv tb:Int) (w:World) (hb:af w B 143 #[v,.int .i64 lv,.int .i64 tb]) :
 Calls Tryz.prog 47 #[.pointer (some ⟨B,0,none⟩)] w λe w'=>e = .returned (.int .i64 lv)/\w=w':=by
 have c1:=hb.cell 1;have hl:=hb.lt;clear hb;go_enter Tryz.func47,Tryz.ntmps47
 go_wp2;go_ret;exact ⟨rfl,rfl⟩
theorem agd:(Tryz.prog.info? 147).map (λi=>(i.zero,i.size,i.bytes))=some (some (.agg #[.int .u64 0,.int .u64 0,.int .u64 0,.int .u64 0,.int .u64 0,.int .u64 0,.int .u64 0,.int .u64 0,.int .u64 0,.int .u64 0,.int .u64 0,.int .u64 0,.int .u64 0,.int .u64 0,.int .u64 0,.int .u64 0,.int .u64 0,.int .u64 0,.int .u64 0,.int .u64 0,.int .u64 0,.int .u64 0,.int .u64 0,.int .u64 0,.int .u64 0]),25,200):=by kernel_rfl
end Go.Proofs.YtolhmibejhldkaaGreatDoor
namespace Go.Proofs.YtolhmibejhldkaaGreatDoor
open Go.RowKit Go.Proofs
attribute [local go_sem] Oper.semAt_some wide_depth round_depth wide_fn round_fn
theorem Ve (h g:Nat) (hr:aN (g:Int)=true) (hh:h<18446744073709551616) (w:World) :
 Calls Tryz.prog 140 #[.int .u64 (h:Int),.int .i64 (g:Int)] w λe w'=>e = .returned (.int .i64 ((h % g:Nat):Int))/\w=w':=by
 have hb:=dZ hr;have hm:=UO h g hr hh;have hlt:h % g<64:=bM (Nat.mod_lt _ (by omega)) hb.2;have hr':=aa hr;clear hr;go_enter Tryz.func140,Tryz.ntmps140
 go_wp2;go_ret;exact ⟨rfl,rfl⟩
theorem Ua (h n:Int) (w:World) :
 Calls Tryz.prog 93 #[.int .u64 h,.int .i64 n] w λe w' =>
  e = .returned (.func (.func 139) #[] #[.pointer (some ⟨w.heap.size+1,0,none⟩),.pointer (some ⟨w.heap.size,0,none⟩)])/\
  (w.alloc (.cells #[.int .u64 h] 38)).alloc (.cells #[.int .i64 n] 3)=w':=by
 go_enter Tryz.func93,Tryz.ntmps93
 go_wp2;go_ret;exact ⟨rfl,rfl⟩
def jc (h g k:Nat):Nat:=if k=0 then h % g else bE h g (k-1)
theorem GJ (h g k:Nat):(jc h g k+k) % g=bE h g k:=by
 unfold jc;split
 . subst k;simp [bE]
 . obtain ⟨j,rfl⟩:∃j,k=j+1:=⟨k-1,by omega⟩
   rw [Kh];rfl
theorem GI (h g k:Nat):jc h g (k+1)=bE h g k:=by simp [jc]
theorem Cw (h g k:Nat) (hg:1<=g):jc h g k<g:=by
 unfold jc;split
 . exact Nat.mod_lt _ hg
 . exact nI _ _ _ hg
theorem M9 (h g:Nat) (hr:aN (g:Int)=true) (hh:h<18446744073709551616) (Bh Bg:Nat) (w:World)
 (hch:w.cell? ⟨Bh,0,none⟩=some (.int .u64 (h:Int))) (hcg:w.cell? ⟨Bg,0,none⟩=some (.int .i64 (g:Int))) :
 ng Tryz.prog 139 #[.pointer (some ⟨Bg,0,none⟩),.pointer (some ⟨Bh,0,none⟩)] (λi => #[.int .i64 ((bE h g i:Nat):Int)]) g (λb=>b=Bh\/b=Bg) w:=by
 intro l J Jx W hW _ hY _ h0;have hb:=dZ hr;have gch:∀W1,Same (λb=>b=Bh\/b=Bg) W W1->W1.cell? ⟨Bh,0,none⟩=some (.int .u64 (h:Int)):=λW1 h1=>((hW.trans h1).cell (a:=⟨Bh,0,none⟩) (Or.inl rfl)).trans hch;have gcg:∀W1,Same (λb=>b=Bh\/b=Bg) W W1->W1.cell? ⟨Bg,0,none⟩=some (.int .i64 (g:Int)):=λW1 h1=>((hW.trans h1).cell (a:=⟨Bg,0,none⟩) (Or.inr rfl)).trans hcg;have chW:=gch W (Same.refl _ _);have cgW:=gcg W (Same.refl _ _);have hG:=aa gcg;have hY':=aa hY;have hr':=aa hr;clear gch gcg hY hch hcg;refine callsIn_of_wp Tryz.func139 rfl trivial ?_ rfl;simp only [Tryz.ntmps139,List.size_toArray,List.length_cons,List.length_nil,Nat.reduceAdd,Nat.reduceSub,Array.replicate_succ,Array.replicate_zero,List.push_toArray,List.append_toArray,List.nil_append,List.cons_append]
 gi_wp2_with (first
  | (gi_at_call 104;refine (callsIn_wide.2 (fu _ _)).mono ?_;rintro e w' ⟨rfl,rfl⟩)
  | (gi_at_call 140;refine (callsIn_wide.2 (Ve _ _ hr'.out hh _)).mono ?_;rintro e w' ⟨rfl,rfl⟩))
 gi_loopw [4,13] (λv4 v13 wr => ∃k:Nat,k<=g/\v13 = .int .i64 (k:Int)/\v4 = .int .i64 ((jc h g k:Nat):Int)/\J k wr/\Same (λb=>b=Bh\/b=Bg) W wr)
  (λ_ v13 _=>g-(intOf v13).toNat)
 case atStart=>exact ⟨0,o7 _,rfl,by simp [jc],h0,Same.refl _ _⟩
 case round =>
  obtain ⟨k,hk,rfl,rfl,hJ,hB⟩:=hrel;by_cases hlt:k<g
  . have hm:=UQ (jc h g k+k) g hr'.out (by have:=Cw h g k hb.1;omega);rw [GJ] at hm;have hl:=Cw h g k hb.1;have hm':bits .and .i64 (((jc h g k:Nat):Int)+(k:Int)) ((g:Int)-1)=((bE h g k:Nat):Int):=by rw [<-hm];simp
    clear hm;have hcg:=hG.out wr hB;obtain ⟨fn,tmps,assign,body,hy,hR⟩:=hY'.out k wr hlt hJ hB
    gi_wp2
    refine hR.mono ?_;rintro e W' (⟨rfl,hJ',hB'⟩ | ⟨rfl,hx⟩)
    . gi_wp2
      go_roundw
      case rel=>exact ⟨k+1,by omega,by go_num,by rw [GI],hJ',hB.trans hB'⟩
      case measure=>simp [intOf];omega
    . gi_wp2
      refine bodyPost_ret (results_none rfl _ _ _) rfl ?_;exact ⟨⟨_,rfl⟩,.inr hx⟩
  . obtain rfl:k=g:=by omega
    gi_wp2
    go_end0
    exact ⟨⟨_,rfl⟩,.inl hJ⟩
theorem Df (n:Int) (hr:aN n=false) (Bh Bg:Nat) (w:World) (encs:Nat->Array Value)
 (hcg:w.cell? ⟨Bg,0,none⟩=some (.int .i64 n)) :
 ng Tryz.prog 139 #[.pointer (some ⟨Bg,0,none⟩),.pointer (some ⟨Bh,0,none⟩)] encs 0 (λb=>b=Bh\/b=Bg) w:=by
 intro l J Jx W hW _ hY _ h0;have cgW:W.cell? ⟨Bg,0,none⟩=some (.int .i64 n):=(hW.cell (a:=⟨Bg,0,none⟩) (Or.inr rfl)).trans hcg;clear hY hcg;refine callsIn_of_wp Tryz.func139 rfl trivial ?_ rfl;simp only [Tryz.ntmps139,List.size_toArray,List.length_cons,List.length_nil,Nat.reduceAdd,Nat.reduceSub,Array.replicate_succ,Array.replicate_zero,List.push_toArray,List.append_toArray,List.nil_append,List.cons_append]
 gi_wp2_with (gi_at_call 104;refine (callsIn_wide.2 (fu _ _)).mono ?_;rintro e w' ⟨rfl,rfl⟩)
 refine bodyPost_ret (results_none rfl _ _ _) rfl ?_;exact ⟨⟨_,rfl⟩,.inl h0⟩
theorem abH:(Tryz.prog.info? 3).map (λi=>(i.zero,i.size,i.bytes))=some (some (.int .i64 0),1,8):=by kernel_rfl
def encI (xs:Nat->Int) (i:Nat):Value := .int .i64 (xs i)
theorem Tk (xs:Nat->Int) (i:Nat):(List.range (i+1)).map (encI xs)=(List.range i).map (encI xs) ++ [.int .i64 (xs i)]:=by
 rw [List.range_succ,List.map_append];rfl
def Bc (n:Int):Nat:=if aN n then n.toNat else 0
def Jy (h:Nat) (n:Int):List Int:=(List.range (Bc n)).map λi=>((bE h n.toNat i:Nat):Int)
theorem KY (h:Nat) (n:Int):(Jy h n).length=Bc n:=by simp [Jy]
theorem UD (h:Nat) (n:Int):(Jy h n).map (Value.int .i64)=(List.range (Bc n)).map (encI (λi=>((bE h n.toNat i:Nat):Int))):=by
 simp [Jy,encI]
theorem Mf (args:Array Value) (w:World):(callFunc 139 args).run Tryz.prog w = .ok (.enter 139 args) w :=
 enters_of Tryz.func139 (by kernel_rfl) rfl args w
theorem Dz (h:Nat) (n:Int) (hh:h<18446744073709551616) (w:World) :
 ng Tryz.prog 139 #[.pointer (some ⟨w.heap.size+1,0,none⟩),.pointer (some ⟨w.heap.size,0,none⟩)] (λi => #[.int .i64 ((bE h n.toNat i:Nat):Int)]) (Bc n) (λb=>b=w.heap.size\/b=w.heap.size+1)
  ((w.alloc (.cells #[.int .u64 (h:Int)] 38)).alloc (.cells #[.int .i64 n] 3)):=by
 have c1:((w.alloc (.cells #[.int .u64 (h:Int)] 38)).alloc (.cells #[.int .i64 n] 3)).cell? ⟨w.heap.size+1,0,none⟩=some (.int .i64 n):=by
  rw [(af.aF (by simp)).cell];rfl
 have c0:((w.alloc (.cells #[.int .u64 (h:Int)] 38)).alloc (.cells #[.int .i64 n] 3)).cell? ⟨w.heap.size,0,none⟩=some (.int .u64 (h:Int)):=by
  rw [((af.aF rfl).alloc _).cell];rfl
 unfold Bc;split
 . rename_i hr
   obtain ⟨g,rfl⟩:=Int.eq_ofNat_of_zero_le (show 0<=n by rw [dG] at hr;omega);exact M9 h g hr hh w.heap.size (w.heap.size+1) _ c0 c1
 . rename_i hr
   exact Df n (by simpa using hr) w.heap.size (w.heap.size+1) _ _ c1
theorem UE (h:Nat) (n:Int) (k:Nat) (hk:k<(Jy h n).length):(Jy h n)[k]=((bE h n.toNat k:Nat):Int):=by simp [Jy]
end Go.Proofs.YtolhmibejhldkaaGreatDoor
namespace Go.Proofs.YtolhmibejhldkaaGreatDoor
open Go.RowKit
inductive bu where
 | done
 | step (i k:Nat) (r:bu)
 | fork (m:bu)
 | alt (i:Nat) (p m:bu)
 | none
def bu.sz:bu->Nat
 | .done=>0
 | .step _ _ r=>r.sz+1
 | .fork m=>m.sz
 | .alt _ p _=>p.sz+1
 | .none=>0
def bu.chain:bu->Bool
 | .alt _ _ _=>true
 | .none=>true
 | _=>false
def bu.set:bu->List Nat
 | .alt i _ m=>i :: m.set
 | _ => []
def rU (ns:Array iT) (loads i k L:Nat):Bool :=
 match ns[i]? with
 | Option.none=>false
 | some n=>(n.kind == k) && (ready n L i && (n.kind != 1 || loads.testBit i) &&
  (if n.kind<2 then (List.range ns.size).all λj=>j == i || L.testBit j || match ns[j]? with|some m=>m.ahead.testBit i || J5 n m|Option.none=>true
   else (List.range ns.size).all λj=>j == i || match ns[j]? with|some m => !ready m L j|Option.none=>true) &&
  (n.kind<3 || !lq n loads i))
def bu.ok (ns:Array iT) (loads:Nat):bu->Nat->Bool
 | .done,L=>(List.range ns.size).all λi=>L.testBit i
 | .step i k r,L=>rU ns loads i k L && !r.chain && r.ok ns loads (L ||| 2 ^ i)
 | .fork m,L => !m.set.isEmpty && ((List.range ns.size).all λj=>m.set.contains j || match ns[j]? with|some n => !ready n L j|Option.none=>true) && m.ok ns loads L
 | .alt i p m,L=>(match ns[i]? with|some n=>ready n L i|Option.none=>false) && !p.chain && p.ok ns loads (L ||| 2 ^ i) && (m.set.isEmpty || m.sz == p.sz+1) && m.ok ns loads L
 | .none,_=>true
section
variable {P:Program} {ops:Array Oper} {Q:Exit->Act->World->Prop} {md:Region.Mode} {X:Nat->Prop} {ns:Array iT}
def DU (P:Program) (ops:Array Oper) (Q:Exit->Act->World->Prop) (X:Nat->Prop) (R:Act->World->Prop) (i k:Nat) (a:Act) (w:World):Prop :=
 if k=0 then ∃o v,ops[i]?=some o/\Yields P ops o v a/\R (a.put o.dst v) w
 else if k=1 then ∃o v,ops[i]?=some o/\YieldsIf P ops (ah X w) o v a/\R (a.put o.dst v) w
 else if k=2 then wpOp P ops Q i (λa' w'=>ah X w w'/\R a' w') a w
 else wpOp P ops Q i R a w
def lM (P:Program) (ops:Array Oper) (Q:Exit->Act->World->Prop) (X:Nat->Prop):bu->Act->World->Prop
 | .done,a,w=>Q .normal a w
 | .step i k r,a,w=>DU P ops Q X (lM P ops Q X r) i k a w
 | .fork m,a,w=>lM P ops Q X m a w
 | .alt i p m,a,w=>wpOp P ops Q i (λa' w'=>ah X w w'/\lM P ops Q X p a' w') a w/\lM P ops Q X m a w
 | .none,_,_=>True
theorem adu {loads:Nat} (hn:jI md ops ns=true) (hsel:Region.noSelect ops=true) (hQ:∀c (a:Act) d v w,Q (.panic c) (a.put d v) w->Q (.panic c) a w) {i k L fuel:Nat} {a:Act} {w:World} {R:Act->World->Prop}
 (hc:lC ns L) (hp:rU ns loads i k L=true) (H:∀a' w',R a' w'->lQ P ops ns (λj=>match ns[j]? with|some n=>lq n loads j|Option.none=>false) Q X fuel (L ||| 2 ^ i) a' w')
 (h:DU P ops Q X R i k a w):lQ P ops ns (λj=>match ns[j]? with|some n=>lq n loads j|Option.none=>false) Q X (fuel+1) L a w:=by
 obtain ⟨hsz,hah,Db⟩:=oC hn;have Lx:=Region.noSelect_spec hsel;unfold rU at hp;cases hni:ns[i]? with
 | none=>simp [hni] at hp
 | some n =>
  simp only [hni,Bool.and_eq_true,beq_iff_eq] at hp;obtain ⟨hkn,⟨⟨hr,hld⟩,hcase⟩,hfl⟩:=hp;have hiL:=(jq.1 hr).1;have hil:i<ns.size:=(Array.getElem?_eq_some_iff.1 hni).1;have hr':∀m,ns[i]?=some m->ready m L i=true:=λm hm=>by rw [hni] at hm;cases hm;exact hr
  have hfree:n.kind<2->∀ (j:Nat) (m:iT) (oi oj:Oper),ns[j]?=some m->ops[i]?=some oi->ops[j]?=some oj->j≠i->L.testBit j=false->m.ahead.testBit i=false->oi.apart ops oj=true:=by
   intro hlt j m oi oj hm hoi hoj hji Vh hja;rw [if_pos hlt] at hcase;have:=List.all_eq_true.1 hcase j (List.mem_range.2 (Array.getElem?_eq_some_iff.1 hm).1);simp only [hm,Vh,hja,Bool.or_false,Bool.false_or,Bool.or_eq_true,beq_iff_eq,hji,false_or] at this;obtain ⟨_,d1,d2,_⟩:=Db i n oi hni hoi;obtain ⟨_,e1,e2,_⟩:=Db j m oj hm hoj;exact Mx d1 d2 e1 e2 this
  unfold DU at h;by_cases k0:k=0
  . rw [if_pos k0] at h;obtain ⟨o,v,ho,hy,h⟩:=h
    exact kY (T:=λ_=>True) hah hsz ho Lx (λc a w=>hQ c a _ _ w) _ L a w hc hiL (λj m oj hm hoj hji Vh hja=>⟨hfree (by omega) j m o oj hm ho hoj hji Vh hja,λ_ _ _ _=>trivial⟩) hr' (Qw hy) trivial
     (H _ _ h)
  . rw [if_neg k0] at h;by_cases k1:k=1
    . rw [if_pos k1] at h;obtain ⟨o,v,ho,hy,h⟩:=h
      have hlb:loads.testBit i=true:=by
       rcases Bool.or_eq_true _ _▸hld with h'|h'
       . rw [bne_iff_ne] at h';exact absurd (hkn.trans k1) h'
       . exact h'
      refine kY (T:=ah X w) hah hsz ho Lx (λc a w=>hQ c a _ _ w) _ L a w hc hiL (λj m oj hm hoj hji Vh hja=>⟨hfree (by omega) j m o oj hm ho hoj hji Vh hja,λu u' hf hT=>hT.trans (hf ?_)⟩) hr' hy (ah.refl _ _)
       (H _ _ h)
      simp only [hm,lq,bne_iff_ne,ne_eq];intro e;have:=congrArg (·.testBit i) e;simp [Nat.testBit_and,Nat.testBit_or,hlb,hja,Nat.testBit_two_pow,hji] at this
    . rw [if_neg k1] at h
      have ho:∀ (j:Nat) (m:iT),ns[j]?=some m->j≠i->ready m L j=false:=by
       intro j m hm hji;by_cases h2:n.kind<2
       . exact absurd (by omega:k=0\/k=1) (by omega)
       . rw [if_neg h2] at hcase;have:=List.all_eq_true.1 hcase j (List.mem_range.2 (Array.getElem?_eq_some_iff.1 hm).1);simpa [hm,hji] using this
      by_cases k2:k=2
      . rw [if_pos k2] at h;exact mJ hil hr' ho (wpOp_mono (λa' w' h'=>⟨λ_=>h'.1,H _ _ h'.2⟩) h)
      . rw [if_neg k2] at h;refine mJ hil hr' ho (wpOp_mono (λa' w' h'=>⟨λhf=>?_,H _ _ h'⟩) h);have h3:¬n.kind<3:=by omega
        rw [hni] at hf;simp only [h3,decide_false,Bool.false_or,Bool.not_eq_true'] at hfl;simp only [hfl] at hf;cases hf
theorem Kg {loads:Nat} (hn:jI md ops ns=true) (hsel:Region.noSelect ops=true) (hQ:∀c (a:Act) d v w,Q (.panic c) (a.put d v) w->Q (.panic c) a w):∀ (p:bu),
 (∀ (L:Nat) (a:Act) (w:World),lC ns L->p.ok ns loads L=true->lM P ops Q X p a w->p.chain=false->lQ P ops ns (λj=>match ns[j]? with|some n=>lq n loads j|Option.none=>false) Q X p.sz L a w)/\
 (∀ (L:Nat) (a:Act) (w:World),lC ns L->p.ok ns loads L=true->lM P ops Q X p a w->∀j∈p.set,(∃n,ns[j]?=some n/\ready n L j=true)/\1<=p.sz/\
  wpOp P ops Q j (λa' w'=>ah X w w'/\lQ P ops ns (λj=>match ns[j]? with|some n=>lq n loads j|Option.none=>false) Q X (p.sz-1) (L ||| 2 ^ j) a' w') a w):=by
 intro p
 induction p with
 | done =>
  refine ⟨λL a w hc hp h _=>?_,λL a w hc hp h j hj=>by cases hj⟩;simp only [bu.ok,List.all_eq_true,List.mem_range] at hp;refine ⟨λj n hj=>?_,h⟩;have:=hp j (Array.getElem?_eq_some_iff.1 hj).1;simp [ready,this]
 | step i k r ih =>
  refine ⟨λL a w hc hp h _=>?_,λL a w hc hp h j hj=>by cases hj⟩;simp only [bu.ok,Bool.and_eq_true,Bool.not_eq_true'] at hp;obtain ⟨⟨h1,h2⟩,h3⟩:=hp;refine adu hn hsel hQ hc h1 (λa' w' hR=>ih.1 _ a' w' ?_ h3 hR h2) h;unfold rU at h1;cases hni:ns[i]? with
  | none=>simp [hni] at h1
  | some n =>
   simp only [hni,Bool.and_eq_true] at h1;exact mW hc hni h1.2.1.1.1
 | fork m ih =>
  refine ⟨λL a w hc hp h _=>?_,λL a w hc hp h j hj=>by cases hj⟩;simp only [bu.ok,Bool.and_eq_true,Bool.not_eq_true'] at hp;obtain ⟨⟨h1,h2⟩,h3⟩:=hp;have hB:=ih.2 L a w hc h3 h
  obtain ⟨j0,hj0⟩:∃j,j∈m.set:=by
   cases hs:m.set with
   | nil=>rw [hs] at h1;cases h1
   | cons j l=>exact ⟨j,by simp⟩
  obtain ⟨⟨n0,hn0,hr0⟩,hs1,-⟩:=hB j0 hj0;obtain ⟨f,hf⟩:∃f,m.sz=f+1:=⟨m.sz-1,by omega⟩
  rw [show (bu.fork m).sz=m.sz from rfl,hf];rw [hf,Nat.add_sub_cancel] at hB;refine ⟨λhnone=>absurd (hnone j0 n0 hn0) (by rw [hr0];simp),λj n hjn hr=>?_⟩
  have hjs:j∈m.set:=by
   have:=List.all_eq_true.1 h2 j (List.mem_range.2 (Array.getElem?_eq_some_iff.1 hjn).1);simpa [hjn,hr] using this
  exact wpOp_mono (λa' w' h'=>⟨λ_=>h'.1,h'.2⟩) (hB j hjs).2.2
 | alt i p m ihp ihm =>
  refine ⟨λL a w hc hp h hch=>(by cases hch),λL a w hc hp h j hj=>?_⟩;simp only [bu.ok,Bool.and_eq_true,Bool.not_eq_true',Bool.or_eq_true,beq_iff_eq] at hp;obtain ⟨⟨⟨⟨h1,h2⟩,h3⟩,h4⟩,h5⟩:=hp;cases hni:ns[i]? with
  | none=>simp [hni] at h1
  | some n =>
   simp only [hni] at h1;rcases List.mem_cons.1 hj with rfl|hj
   . exact ⟨⟨n,hni,h1⟩,by simp [bu.sz],wpOp_mono (λa' w' h'=>⟨h'.1,ihp.1 _ a' w' (mW hc hni h1) h3 h'.2 h2⟩) h.1⟩
   . have hB:=ihm.2 L a w hc h5 h.2 j hj
     have hsz:m.sz=p.sz+1:=by
      rcases h4 with h4|h4
      . cases hs:m.set with
        | nil=>rw [hs] at hj;cases hj
        | cons x l=>rw [hs] at h4;cases h4
      . exact h4
     refine ⟨hB.1,by simp [bu.sz],?_⟩;have:=hB.2.2;rw [hsz,Nat.add_sub_cancel] at this;exact this
 | none=>exact ⟨λL a w hc hp h hch=>(by cases hch),λL a w hc hp h j hj=>by cases hj⟩
theorem ac1 {a:Act} {w:World} (X:Nat->Prop) (ns:Array iT) (loads:Nat) (pl:bu)
 (hn:jI .any ops ns=true) (hsel:Region.noSelect ops=true) (hlen:pl.sz=ops.size) (hch:pl.chain=false) (hp:pl.ok ns loads 0=true)
 (hQ:∀c (a:Act) d v w,Q (.panic c) (a.put d v) w->Q (.panic c) a w) (h:lM P ops Q X pl a w):wpAny P .any ops Q ops.size (Array.replicate ops.size false) a w:=by
 rw [<-hlen];refine rO hn pl.sz _ 0 a _ (λj hj=>?_) ((Kg hn hsel hQ pl).1 0 a w (λj n _ h0=>by simp at h0) hp h hch);rw [Array.getElem?_replicate];simp [hlen,hj]
theorem cZ {id:Nat} {a:Act} {w:World} (X:Nat->Prop) (ns:Array iT) (loads:Nat) (pl:bu) (hm:P.follows .mixedOrders=true)
 (hn:jI .any ops ns=true) (hsel:Region.noSelect ops=true) (hlen:pl.sz=ops.size) (hch:pl.chain=false) (hp:pl.ok ns loads 0=true)
 (hQ:∀c (a:Act) d v w,Q (.panic c) (a.put d v) w->Q (.panic c) a w) (h:lM P ops Q X pl a w.drew):(Code.region id ops true).wp P Q a w :=
 wp_region_any hm (ac1 X ns loads pl hn hsel hlen hch hp hQ h)
theorem GH {l n id:Nat} {a:Act} {w:World} (X:Nat->Prop) (ns:Array iT) (loads:Nat) (pl:bu) (hm:P.follows .mixedOrders=true)
 (hn:jI .any ops ns=true) (hsel:Region.noSelect ops=true) (hlen:pl.sz=ops.size) (hch:pl.chain=false) (hp:pl.ok ns loads 0=true)
 (hQ:∀c (a:Act) d v w,Q (.panic c) (a.put d v) w->Q (.panic c) a w) (hd:Bd ops=true) (hL:¬LetsOut Q) (h:lM P ops Q X pl a w.drew):(Code.region id ops true).wpIn (Fence.wide.inRound l) n P Q a w :=
 wpIn_region_any hm (Cv hd hL _ _ _ _ (ac1 X ns loads pl hn hsel hlen hch hp hQ h))
theorem afb {i:Nat} {r:bu} {o:Oper} {v:Value} {a:Act} {w:World} (ho:ops[i]?=some o) (hw:Region.wanted o (yielded ops a.tmps)=true)
 (hy:∀u,(execOp a.eval o).run P u = .ok (.value v) u) (h:lM P ops Q X r (a.put o.dst v) w):lM P ops Q X (.step i 0 r) a w:=by
 unfold lM DU;rw [if_pos rfl];exact ⟨o,v,ho,.inl ⟨hw,hy⟩,h⟩
theorem aaF {i:Nat} {r:bu} {o:Oper} {v:Value} {a:Act} {w:World} (ho:ops[i]?=some o) (hw:Region.wanted o (yielded ops a.tmps)=true)
 (hy:∀u,ah X w u->(execOp a.eval o).run P u = .ok (.value v) u) (h:lM P ops Q X r (a.put o.dst v) w):lM P ops Q X (.step i 1 r) a w:=by
 unfold lM DU;rw [if_neg (by decide),if_pos rfl];exact ⟨o,v,ho,.inl ⟨hw,hy⟩,h⟩
theorem acn {i:Nat} {r:bu} {o:Oper} {v:Value} {a:Act} {w:World} {t:TypeId} {x:Operand} {p:Addr} {d:TypeDesc} (ho:ops[i]?=some o) (hw:Region.wanted o (yielded ops a.tmps)=true)
 (hop:o.op = .load t x) (hx:a.eval x = .pointer (some p)) (hu:P.underlying t=some d) (hd:d.isRow=false) (hc:w.cell? p=some v) (hX:¬X p.block)
 (h:lM P ops Q X r (a.put o.dst v) w):lM P ops Q X (.step i 1 r) a w :=
 aaF ho hw (λu hc'=>by simp [execOp,hop,hx,Sem.run_bind,AY (P:=P) hu hd (hc'.keep hc hX),Result.andThen]) h
theorem acm {i:Nat} {r:bu} {o:Oper} (cs:List Value) {a:Act} {w:World} {t:TypeId} {x:Operand} {b off:Nat} {d:TypeDesc} (ho:ops[i]?=some o) (hw:Region.wanted o (yielded ops a.tmps)=true)
 (hop:o.op = .load t x) (hx:a.eval x = .pointer (some ⟨b,off,none⟩)) (hu:P.underlying t=some d) (hd:d.isRow=true) (hi:(P.info? t).map (·.size)=some cs.length) (hc:w.rangeAt b off cs) (hX:¬X b)
 (h:lM P ops Q X r (a.put o.dst (.agg cs.toArray)) w):lM P ops Q X (.step i 1 r) a w :=
 aaF ho hw (λu hc'=>by simp [execOp,hop,hx,Sem.run_bind,AZ (P:=P) hu hd hi (Hq hc hc' hX),Result.andThen]) h
theorem ajN {i:Nat} {r:bu} {o:Oper} {a:Act} {w:World} (ho:ops[i]?=some o) (hw:Region.wanted o (yielded ops a.tmps)=true)
 (h:∀K:Act->World->Prop,Hid (∀a' w',ah X w w'->lM P ops Q X r a' w'->K a' w')->o.wp P a w K Q):lM P ops Q X (.step i 2 r) a w:=by
 unfold lM DU;rw [if_neg (by decide),if_neg (by decide),if_pos rfl];unfold wpOp;simp only [ho,hw,if_true];exact .inl (h _ (λ_ _ h1 h2=>⟨h1,h2⟩))
theorem ae9 {i:Nat} {r:bu} {o:Oper} {a:Act} {w:World} (ho:ops[i]?=some o) (hw:Region.wanted o (yielded ops a.tmps)=true)
 (h:∀K:Act->World->Prop,Hid (∀a' w',lM P ops Q X r a' w'->K a' w')->o.wp P a w K Q):lM P ops Q X (.step i 3 r) a w:=by
 unfold lM DU;rw [if_neg (by decide),if_neg (by decide),if_neg (by decide)];unfold wpOp;simp only [ho,hw,if_true];exact .inl (h _ (λ_ _ h=>h))
theorem bP {a:Act} {w:World} (h:Q .normal a w):lM P ops Q X .done a w:=h
theorem afa {m:bu} {a:Act} {w:World} (h:lM P ops Q X m a w):lM P ops Q X (.fork m) a w:=h
theorem ae8 {a:Act} {w:World}:lM P ops Q X .none a w:=trivial
theorem ac4 {i:Nat} {p m:bu} {o:Oper} {a:Act} {w:World} (ho:ops[i]?=some o) (hw:Region.wanted o (yielded ops a.tmps)=true)
 (h:∀K:Act->World->Prop,Hid (∀a' w',ah X w w'->lM P ops Q X p a' w'->K a' w')->o.wp P a w K Q) (hm:lM P ops Q X m a w):lM P ops Q X (.alt i p m) a w:=by
 refine ⟨?_,hm⟩;unfold wpOp;simp only [ho,hw,if_true];exact .inl (h _ (λ_ _ h1 h2=>⟨h1,h2⟩))
end
end Go.Proofs.YtolhmibejhldkaaGreatDoor
namespace Go.Proofs.YtolhmibejhldkaaGreatDoor
open Go.RowKit Go.Proofs
section
variable {P:Program} {ops:Array Oper} {Q:Exit->Act->World->Prop} {X:Nat->Prop} {i:Nat} {r:bu} {o:Oper} {a:Act} {w:World}
theorem bF {a':Act} (h:lM P ops Q X r a' w) (e:a=a':=by first|(simp only [Act.put,List.setIfInBounds_toArray,List.set_cons_zero,List.set_cons_succ];rfl)|rfl):lM P ops Q X r a w:=e▸h
theorem cO {v:Value} {a':Act} (h:lM P ops Q X r a' w) (ho:ops[i]?=some o:=by simp only [List.getElem?_toArray,List.getElem?_cons_succ,List.getElem?_cons_zero];rfl) (hw:Region.wanted o (yielded ops a.tmps)=true:=by rfl)
 (hy:∀u,(execOp a.eval o).run P u = .ok (.value v) u:=by intro u;go_simp <;> with_reducible rfl) (e:a.put o.dst v=a':=by first|(simp only [Act.put,List.setIfInBounds_toArray,List.set_cons_zero,List.set_cons_succ];rfl)|rfl):lM P ops Q X (.step i 0 r) a w:=afb ho hw hy (e▸h)
theorem qV {v:Value} {t:TypeId} {x:Operand} {p:Addr} {d:TypeDesc} (hu:P.underlying t=some d) (h:lM P ops Q X r (a.put o.dst v) w) (ho:ops[i]?=some o:=by simp only [List.getElem?_toArray,List.getElem?_cons_succ,List.getElem?_cons_zero];rfl) (hw:Region.wanted o (yielded ops a.tmps)=true:=by rfl)
 (hop:o.op = .load t x:=by rfl) (hx:a.eval x = .pointer (some p):=by rfl) (hd:d.isRow=false:=by rfl) (hc:w.cell? p=some v:=by go_simp <;> with_reducible rfl) (hX:¬X p.block:=by first|exact id|assumption|(simp;done)|(simp;omega)):lM P ops Q X (.step i 1 r) a w:=acn ho hw hop hx hu hd hc hX h
theorem ztL (cs:List Value) {t:TypeId} {x:Operand} {b off:Nat} {d:TypeDesc} (hu:P.underlying t=some d) (h:lM P ops Q X r (a.put o.dst (.agg cs.toArray)) w) (ho:ops[i]?=some o:=by simp only [List.getElem?_toArray,List.getElem?_cons_succ,List.getElem?_cons_zero];rfl) (hw:Region.wanted o (yielded ops a.tmps)=true:=by rfl)
 (hop:o.op = .load t x:=by rfl) (hx:a.eval x = .pointer (some ⟨b,off,none⟩):=by rfl) (hd:d.isRow=true:=by rfl) (hi:(P.info? t).map (·.size)=some cs.length:=by kernel_rfl) (hc:w.rangeAt b off cs:=by first|(with_reducible assumption)|(refine qi ?_;simp only [Bw];(repeat' (first|exact True.intro|apply And.intro));all_goals (go_simp <;> with_reducible rfl))) (hX:¬X b:=by first|exact id|assumption|(simp;done)|(simp;omega)):lM P ops Q X (.step i 1 r) a w:=acm cs ho hw hop hx hu hd hi hc hX h
theorem qU (h:∀K:Act->World->Prop,Hid (∀a' w',ah X w w'->lM P ops Q X r a' w'->K a' w')->o.wp P a w K Q) (ho:ops[i]?=some o:=by simp only [List.getElem?_toArray,List.getElem?_cons_succ,List.getElem?_cons_zero];rfl) (hw:Region.wanted o (yielded ops a.tmps)=true:=by rfl):lM P ops Q X (.step i 2 r) a w:=ajN ho hw h
theorem iC (h:∀K:Act->World->Prop,Hid (∀a' w',lM P ops Q X r a' w'->K a' w')->o.wp P a w K Q) (ho:ops[i]?=some o:=by simp only [List.getElem?_toArray,List.getElem?_cons_succ,List.getElem?_cons_zero];rfl) (hw:Region.wanted o (yielded ops a.tmps)=true:=by rfl):lM P ops Q X (.step i 3 r) a w:=ae9 ho hw h
end
end Go.Proofs.YtolhmibejhldkaaGreatDoor
namespace Go.Proofs.YtolhmibejhldkaaGreatDoor
open Go.RowKit
section
variable {P:Program} {ops:Array Oper} {Q:Exit->Act->World->Prop} {X:Nat->Prop}
theorem BH {i j:Nat} {p q:bu} {o o2:Oper} {a:Act} {w:World} (h:∀K:Act->World->Prop,Hid (∀a' w',ah X w w'->lM P ops Q X p a' w'->K a' w')->o.wp P a w K Q) (h2:∀K:Act->World->Prop,Hid (∀a' w',ah X w w'->lM P ops Q X q a' w'->K a' w')->o2.wp P a w K Q) (ho:ops[i]?=some o:=by simp only [List.getElem?_toArray,List.getElem?_cons_succ,List.getElem?_cons_zero];rfl) (hw:Region.wanted o (yielded ops a.tmps)=true:=by rfl) (ho2:ops[j]?=some o2:=by simp only [List.getElem?_toArray,List.getElem?_cons_succ,List.getElem?_cons_zero];rfl) (hw2:Region.wanted o2 (yielded ops a.tmps)=true:=by rfl):lM P ops Q X (.fork (.alt i p (.alt j q .none))) a w:=afa (ac4 ho hw h (ac4 ho2 hw2 h2 ae8))
end
attribute [local go_sem] Oper.semAt_some wide_depth round_depth wide_fn round_fn
theorem ah.qF {X:Nat->Prop} {m:Nat} {w w':World} (h:Below m w w') (hX:∀k,m<=k->X k):ah X w w':=⟨h.os,h.tape,h.output,h.size,λk hk hx=>h.block k (Nat.not_le.1 λe=>hx (hX k e))⟩
theorem aJ {Q:Exit->Act->World->Prop} {e:Exit} {a:Act} {w:World} (h:∀W,W=w->Q e a W):Q e a w:=h w rfl
theorem aef (h:Nat) (hh:h<18446744073709551616) (w:World) :
 Calls Tryz.prog 94 #[.int .u64 (h:Int)] w λe w'=>e = .returned (.int .u64 ((h / 128:Nat):Int))/\w=w':=by
 have e1:(h:Int) / 2 ^ 7=((h / 128:Nat):Int):=by omega
 go_enter Tryz.func94,Tryz.ntmps94
 go_wp2;go_ret;exact ⟨rfl,rfl⟩
def addN (mt:aG) (x y z:Int):Nat->aG
 | 0=>mt
 | p+1=>(addN mt x y z p).add x y z
theorem CS {β:Type} {X:Nat->Prop} {B:Nat} {w₀:World} (hB:w₀.heap.size<=B):OwnFrom B (λ(_:β) W=>ah X w₀ W) :=
 λ_ W W' row hs hg hr=>⟨hg.os.trans hs.os,hg.tape.trans hs.tape,hg.output.trans hs.output,qH hs.size hg.size,λk hk hx =>
  (hg.block k (bM hk hs.size) (λe=>by have:=(hr k e.symm).1;omega)).trans (hs.block k hk hx)⟩
theorem fQ {X:Nat->Prop} {B:Nat} {W W':World} (h:ah X W W') (hX:∀k,X k->k<B):KeepsFrom B W W' :=
 ⟨h.size,λk o hk ho _=>(h.block k (Array.getElem?_eq_some_iff.1 ho).1 (λhx=>by have:=hX k hx;omega)).trans ho⟩
theorem AU {X S:Nat->Prop} {W W':World} (h:ah X W W') (hS:∀b,S b->b<W.heap.size/\¬X b):Same S W W':=λb hb=>h.block b (hS b hb).1 (hS b hb).2
def iJ (Q:Nat) (M:Nat->Nat) (wk:Nat->Nat) (p:Nat) (fp:Option Addr) (fz:Int):Prop :=
 (fz = -1/\∀j,j<p->dQ (M (wk j)) = -1)\/∃j,j<p/\fp=some ⟨Q,wk j*25,none⟩/\fz=dQ (M (wk j))/\0<=fz/\∀j',j'<j->dQ (M (wk j')) = -1
def qw (M:Nat->Nat) (S:Nat->Nat->ai) (key:Int) (h:Nat) (wk:Nat->Nat) (p:Nat):Prop :=
 ∀j,j<p->eP (S (wk j)) key (aI (aU (M (wk j)) (h % 128))) = -1/\bR (M (wk j))=false
def Gu (Q n:Nat) (M:Nat->Nat) (S:Nat->Nat->ai) (key:Int) (h:Nat) (p:Nat) (ap:Option Addr) (az:Int) (fp:Option Addr) (fz:Int):Prop :=
 1<=p/\p<=n/\iJ Q M (bE (h / 128) n) p fp fz/\qw M S key h (bE (h / 128) n) (p-1)/\
 ((az = -1/\ap=none/\eP (S (bE (h / 128) n (p-1))) key (aI (aU (M (bE (h / 128) n (p-1))) (h % 128))) = -1/\(bR (M (bE (h / 128) n (p-1)))=true\/(p=n/\bR (M (bE (h / 128) n (p-1)))=false)))\/
  (0<=az/\ap=some ⟨Q,bE (h / 128) n (p-1)*25,none⟩/\eP (S (bE (h / 128) n (p-1))) key (aI (aU (M (bE (h / 128) n (p-1))) (h % 128)))=az))
def dO (B:Nat) (key:Int) (h:Nat) (ap:Option Addr) (az:Int) (fp:Option Addr) (fz:Int):Array Value :=
 #[.pointer (some ⟨B,0,none⟩),.int .u64 key,.int .u64 (h:Int),.pointer ap,.int .i64 az,.pointer fp,.int .i64 fz]
theorem ab1 (m:Nat):dQ m = -1\/0<=dQ m:=by
 unfold dQ;split
 . exact .inl rfl
 . exact .inr (by omega)
theorem Du (s:Nat->ai) (key:Int) (l:List Nat):eP s key l = -1\/0<=eP s key l:=by
 unfold eP;split
 . exact .inl rfl
 . exact .inr (by omega)
theorem iJ.step {Q:Nat} {M:Nat->Nat} {wk:Nat->Nat} {p:Nat} {fp:Option Addr} (h:iJ Q M wk p fp (-1)):iJ Q M wk (p+1) (some ⟨Q,wk p*25,none⟩) (dQ (M (wk p))):=by
 rcases h with ⟨-,h⟩ | ⟨j,-,-,-,h,-⟩
 . rcases ab1 (M (wk p)) with e|e
   . exact .inl ⟨e,λj hj=>by
      by_cases c:j=p
      . subst c;exact e
      . exact h j (by omega)⟩
   . exact .inr ⟨p,by omega,rfl,rfl,e,h⟩
 . omega
theorem iJ.stay {Q:Nat} {M:Nat->Nat} {wk:Nat->Nat} {p:Nat} {fp:Option Addr} {fz:Int} (h:iJ Q M wk p fp fz) (hz:0<=fz):iJ Q M wk (p+1) fp fz:=by
 rcases h with ⟨h,-⟩ | ⟨j,h1,h2⟩
 . omega
 . exact .inr ⟨j,by omega,h2⟩
theorem iJ.neg {Q:Nat} {M:Nat->Nat} {wk:Nat->Nat} {p:Nat} {fp:Option Addr} {fz:Int} (h:iJ Q M wk p fp fz):fz = -1\/0<=fz:=by
 rcases h with ⟨h,-⟩ | ⟨j,-,-,-,h,-⟩
 . exact .inl h
 . exact .inr h
theorem qj {W W':World} {row:Option Nat} {B:Nat} {T:TypeId} {c:Array Value} (h:af W B T c) (hg:W.grownBy W' row) (hr:∀r,row=some r->∃o:Obj,W.heap[r]?=some o/\o.isCells=false):af W' B T c :=
 mX (λ_:Unit=>B) (λ_=>T) (λ_=>c) () W W' row h hg hr
def skI (Q B n u h b0:Nat) (M:Nat->Nat) (S:Nat->Nat->ai) (key:Int) (lp:Option Nat) (mt:aG) (x y z:Int) (wL:World) (i:Nat) (W:World):Prop :=
 ∃fp fz,iJ Q M (bE u n) i fp fz/\qw M S key h (bE u n) i/\af W (b0+1+1+1+1+1) 100 (dO B key h none (-1) fp fz)/\LW W lp (addN mt x y z i)/\af W (b0+1+1+1+1) 100 #[.pointer none,.int .u64 0,.int .u64 0,.pointer none,.int .i64 0,.pointer none,.int .i64 0]/\
  ah (λb=>lp=some b\/b=b0+1+1+1+1\/b=b0+1+1+1+1+1) wL W
def skX (Q B n h b0:Nat) (M:Nat->Nat) (S:Nat->Nat->ai) (key:Int) (lp:Option Nat) (mt:aG) (x y z:Int) (wL:World) (c:Code) (W:World):Prop :=
 ∃p ap az fp fz,c = .ret/\Gu Q n M S key h p ap az fp fz/\af W (b0+1+1+1+1) 100 (dO B key h ap az fp fz)/\LW W lp (addN mt x y z p)/\
  ah (λb=>lp=some b\/b=b0+1+1+1+1\/b=b0+1+1+1+1+1) wL W
theorem aba (Q B n u h b0:Nat) (M:Nat->Nat) (S:Nat->Nat->ai) (key:Int) (lp:Option Nat) (mt:aG) (x y z:Int) (wL:World):OwnFrom wL.heap.size (skI Q B n u h b0 M S key lp mt x y z wL):=by
 rintro i W W' row ⟨fp,fz,h1,h2,h3,h4,h6,h5⟩ hg hr
 have hr':=λr e=>(hr r e).2;exact ⟨fp,fz,h1,h2,qj h3 hg hr',λM e=>qj (h4 M e) hg hr',qj h6 hg hr',CS (β:=Unit) (aL _) () W W' row h5 hg hr⟩
theorem aa9 (Q B n h b0:Nat) (M:Nat->Nat) (S:Nat->Nat->ai) (key:Int) (lp:Option Nat) (mt:aG) (x y z:Int) (wL:World):OwnFrom wL.heap.size (skX Q B n h b0 M S key lp mt x y z wL):=by
 rintro c W W' row ⟨p,ap,az,fp,fz,h1,h2,h3,h4,h5⟩ hg hr
 have hr':=λr e=>(hr r e).2;exact ⟨p,ap,az,fp,fz,h1,h2,qj h3 hg hr',λM e=>qj (h4 M e) hg hr',CS (β:=Unit) (aL _) () W W' row h5 hg hr⟩
theorem Dn {F:Fence} {n:Nat} {P:Program} {c:Code} {Q:Exit->Act->World->Prop} {a:Act} {w:World} (h:∀W,W=w->c.wpIn F n P Q a W):c.wpIn F n P Q a w:=h w rfl
theorem jH {w:World} {C:Nat} {T:TypeId} {a b c d e f g:Value} (h:af w C T #[a,b,c,d,e,f,g]) :
 w.cell? ⟨C,0,none⟩=some a/\w.cell? ⟨C,1,none⟩=some b/\w.cell? ⟨C,2,none⟩=some c/\w.cell? ⟨C,3,none⟩=some d/\w.cell? ⟨C,4,none⟩=some e/\w.cell? ⟨C,5,none⟩=some f/\w.cell? ⟨C,6,none⟩=some g:=⟨h.cell 0,h.cell 1,h.cell 2,h.cell 3,h.cell 4,h.cell 5,h.cell 6⟩
structure SK (W:World) (B Q n V b0 h:Nat) (M:Nat->Nat) (S:Nat->Nat->ai) (lv tb:Int) (key:Int) (lp:Option Nat) (mt:aG) (fp:Option Addr) (fz:Int) (x:Nat) (W0:World):Prop where
 t:TW W B Q n M S lv tb
 tab:iB W
 l:LW W lp mt
 v:af W V 96 #[.pointer (some ⟨Q,x*25,none⟩)]
 k:af W (b0+1+1) 38 #[.int .u64 key]
 hb:af W (b0+1+1+1) 38 #[.int .u64 (h:Int)]
 r:af W (b0+1+1+1+1) 100 #[.pointer none,.int .u64 0,.int .u64 0,.pointer none,.int .i64 0,.pointer none,.int .i64 0]
 s:af W (b0+1+1+1+1+1) 100 (dO B key h none (-1) fp fz)
 c:ah (λb=>lp=some b\/b=b0+1+1+1+1\/b=b0+1+1+1+1+1) W0 W
theorem SK.later {W W' W0:World} {B Q n V b0 h:Nat} {M:Nat->Nat} {S:Nat->Nat->ai} {lv tb:Int} {key:Int} {lp:Option Nat} {mt:aG} {fp:Option Addr} {fz:Int} {x:Nat} (hs:SK W B Q n V b0 h M S lv tb key lp mt fp fz x W0) (hb:Below W.heap.size W W') :
 SK W' B Q n V b0 h M S lv tb key lp mt fp fz x W0 :=
 ⟨hs.t.later hb,hs.tab.below hb,hs.l.later hb,hs.v.below hb hs.v.lt,hs.k.below hb hs.k.lt,hs.hb.below hb hs.hb.lt,hs.r.below hb hs.r.lt,hs.s.below hb hs.s.lt,hs.c.au hb⟩
theorem SK.free {W W0:World} {B Q n V b0 h:Nat} {M:Nat->Nat} {S:Nat->Nat->ai} {lv tb:Int} {key:Int} {lp:Option Nat} {mt:aG} {fp:Option Addr} {fz:Int} {x:Nat} (hs:SK W B Q n V b0 h M S lv tb key lp mt fp fz x W0) (hB:B<b0) (hQ:Q<b0)
 (hl:∀b,b0<=b->lp≠some b) (hV:b0+1+1+1+1+1<V) (hT:16<b0) (fz':Int) :
 SK ((W.setCell ⟨b0+1+1+1+1+1,5,none⟩ (.pointer (some ⟨Q,x*25,none⟩))).setCell ⟨b0+1+1+1+1+1,6,none⟩ (.int .i64 fz')) B Q n V b0 h M S lv tb key lp mt (some ⟨Q,x*25,none⟩) fz' x W0:=by
 have hc:ah (λb=>b=b0+1+1+1+1+1) W ((W.setCell ⟨b0+1+1+1+1+1,5,none⟩ (.pointer (some ⟨Q,x*25,none⟩))).setCell ⟨b0+1+1+1+1+1,6,none⟩ (.int .i64 fz')):=((ah.refl _ _).set1 _ _).set1 _ _
 exact ⟨hs.t.aA hc (by omega) (by omega),λj hj=>(hc.cell (p:=⟨16,j,none⟩) (qx _ _ (hs.tab j hj)) (by show ¬16=b0+1+1+1+1+1;omega)).trans (hs.tab j hj),hs.l.aA hc (λM' e e2=>hl M' (by omega) e),hs.v.aA hc (by omega),hs.k.aA hc (by omega),hs.hb.aA hc (by omega),hs.r.aA hc (by omega),
  (hs.s.set 5 _).set 6 _,hs.c.trans (hc.mono (λi _ e => .inr (.inr e)))⟩
theorem AQ {Q n:Nat} {M:Nat->Nat} {S:Nat->Nat->ai} {key:Int} {h i x u:Nat} {fp:Option Addr} {fz:Int} (hu:u=h / 128) (hi:i<n) (hx:x=bE u n i) (hF:iJ Q M (bE u n) (i+1) fp fz) (hM:qw M S key h (bE u n) i)
 (ef:eP (S x) key (aI (aU (M x) (h % 128))) = -1) (eo:bR (M x)=true):Gu Q n M S key h (i+1) none (-1) fp fz:=by
 subst hu;refine ⟨by omega,hi,hF,by rw [Nat.add_sub_cancel];exact hM,.inl ⟨rfl,rfl,?_⟩⟩;rw [Nat.add_sub_cancel,<-hx];exact ⟨ef,.inl eo⟩
theorem qC {Q n:Nat} {M:Nat->Nat} {S:Nat->Nat->ai} {key:Int} {h i x u:Nat} {fp:Option Addr} {fz k:Int} (hu:u=h / 128) (hi:i<n) (hx:x=bE u n i) (hF:iJ Q M (bE u n) (i+1) fp fz) (hM:qw M S key h (bE u n) i)
 (hk:0<=k) (ef:eP (S x) key (aI (aU (M x) (h % 128)))=k):Gu Q n M S key h (i+1) (some ⟨Q,x*25,none⟩) k fp fz:=by
 subst hu;refine ⟨by omega,hi,hF,by rw [Nat.add_sub_cancel];exact hM,.inr ⟨hk,?_⟩⟩;rw [Nat.add_sub_cancel,<-hx];exact ⟨rfl,ef⟩
theorem Ry {Q n:Nat} {M:Nat->Nat} {S:Nat->Nat->ai} {key:Int} {h u:Nat} {fp:Option Addr} {fz:Int} (hu:u=h / 128) (hn:1<=n) (hF:iJ Q M (bE u n) n fp fz) (hM:qw M S key h (bE u n) n):Gu Q n M S key h n none (-1) fp fz:=by
 subst hu;exact
 ⟨hn,aL _,hF,λj hj=>hM j (by omega),.inl ⟨rfl,rfl,(hM (n-1) (by omega)).1,.inr ⟨rfl,(hM (n-1) (by omega)).2⟩⟩⟩
theorem qw.step {M:Nat->Nat} {S:Nat->Nat->ai} {key:Int} {h i x:Nat} {wk:Nat->Nat} (hM:qw M S key h wk i) (hx:x=wk i) (ef:eP (S x) key (aI (aU (M x) (h % 128))) = -1) (eo:bR (M x)=false):qw M S key h wk (i+1):=λj hj=>by
 by_cases e:j=i
 . subst e;rw [<-hx];exact ⟨ef,eo⟩
 . exact hM j (by omega)
theorem Um (B Q n:Nat) (M:Nat->Nat) (S:Nat->Nat->ai) (lv tb:Int) (key:Int) (h:Nat) (hh:h<18446744073709551616) (hr:aN (n:Int)=true) (hM:∀i,i<n->M i<18446744073709551616)
 (q:Option Addr) (lp:Option Nat) (hq:di q lp) (mt:aG) (x1 y1 z1:Int) (w:World) (hT:TW w B Q n M S lv tb) (hL:LW w lp mt) (hlp:∀b,lp=some b->b≠B/\b≠Q/\b<w.heap.size/\b≠16) (Oa:iB w) :
 Calls Tryz.prog 43 #[.pointer (some ⟨B,0,none⟩),.agg #[.pointer q,.int .i64 x1,.int .i64 y1,.int .i64 z1],.int .u64 key,.int .u64 (h:Int)] w λe w' =>
  ∃p ap az fp fz,e = .returned (.agg (dO B key h ap az fp fz))/\Gu Q n M S key h p ap az fp fz/\LW w' lp (addN mt x1 y1 z1 p)/\ah (λb=>lp=some b) w w':=by
 have hn:=dZ hr;have aiT:Bc (n:Int)=n:=by unfold Bc;rw [if_pos hr];rfl
 have HT:=aa hT;have HL:=aa hL;have HTb:=aa Oa;have HLP:=aa hlp;have c0:=hT.head.cell 0;have hlB:=hT.head.lt;have hlQ:=hT.lt;have H1:=aa (aef h hh);have GU:h / 128<18446744073709551616:=by omega
 obtain ⟨u,hu⟩:=dC (h / 128);rw [<-hu] at H1 GU;have HU:=aa hu;clear hT hL Oa hlp hu;refine (callsIn_wide (n:=0)).1 ?_;refine callsIn_of_wp_marks Tryz.func43 rfl trivial ?_;simp only [Tryz.ntmps43,List.size_toArray,List.length_cons,List.length_nil,Nat.reduceAdd,Nat.reduceSub,Array.replicate_succ,Array.replicate_zero,List.push_toArray,List.append_toArray,List.nil_append,List.cons_append];refine wpIn_wide.2 ?_;go_wp2;refine bG (λwE hwE=>?_);have q4:af wE w.heap.size 85 #[.pointer (some ⟨B,0,none⟩)]:=by rw [hwE];exact (((((af.new w _ _).alloc _).alloc _).alloc _).alloc _).alloc _
 have q5:af wE (w.heap.size+1) 50 #[.pointer q,.int .i64 x1,.int .i64 y1,.int .i64 z1]:=by rw [hwE];exact ((((af.aF (by simp)).alloc _).alloc _).alloc _).alloc _
 have q6:af wE (w.heap.size+1+1) 38 #[.int .u64 key]:=by rw [hwE];exact (((af.aF (by simp)).alloc _).alloc _).alloc _
 have q7:af wE (w.heap.size+1+1+1) 38 #[.int .u64 (h:Int)]:=by rw [hwE];exact ((af.aF (by simp)).alloc _).alloc _
 have q8:af wE (w.heap.size+1+1+1+1) 100 #[.pointer none,.int .u64 0,.int .u64 0,.pointer none,.int .i64 0,.pointer none,.int .i64 0]:=by rw [hwE];exact (af.aF (by simp)).alloc _
 have q9:af wE (w.heap.size+1+1+1+1+1) 100 (dO B key h none (-1) none (-1)):=by rw [hwE];exact af.aF (by simp)
 have qz:wE.heap.size=w.heap.size+1+1+1+1+1+1:=by rw [hwE];simp
 have hBE:Below w.heap.size w wE:=by rw [hwE];go_grown
 obtain ⟨b0,hb0⟩:=dC w.heap.size;rw [<-hb0] at q4 q5 q6 q7 q8 q9 qz;simp only [<-hb0];have k4:=q4.cell 0;have k7:=q7.cell 0;have k9:=(HT.out.later hBE).head.cell 0;have zE:b0<wE.heap.size/\b0+1+1+1<wE.heap.size/\B<wE.heap.size:=⟨q4.lt,q7.lt,(HT.out.later hBE).head.lt⟩
 obtain ⟨zE4,zE7,zEB⟩:=zE;have X4:=aa q4;have X5:=aa q5;have X6:=aa q6;have X7:=aa q7;have X8:=aa q8;have X9:=aa q9;have HB0:=aa hb0;replace hwE:=aa hwE;have QZ:=aa qz;clear qz q4 q5 q6 q7 q8 q9 c0 hb0;refine wp_region_noPanic ?_;refine ag (λ_=>False) #[⟨0,0,2^19,128,1⟩,⟨1,1,2^20,2^19,2⟩,⟨0,0,2^21,16,1⟩,⟨4,4,2^22,2^21,0⟩,⟨8,12,2^23,2^22,0⟩,⟨16,28,2^24,2^23,1⟩,⟨32,60,2^25,2^24,0⟩,⟨66,127,2^26,(2^20+2^25),3⟩] 37 [(0,1),(2,1),(3,0),(4,0),(5,1),(6,0),(1,2),(7,3)] (by kernel_rfl) (by kernel_rfl) (by kernel_rfl) (by kernel_rfl) (by kernel_rfl) (by kernel_rfl) (λc a d v w h=>by cases d <;> exact h) ?_;refine bW Tryz.underlying38 ?_
 try refine aC ?_
 refine bW Tryz.underlying85 ?_
 try refine aC ?_;refine aj ?_;refine aj ?_
 refine bW Tryz.underlying141 ?_
 try refine aC ?_;refine aj ?_
 refine iK λK hK=>?_;go_wp2_with ((go_at_call 94;refine (H1.out _).mono ?_;rintro e w' ⟨rfl,rfl⟩));refine iX hK (h:=?_);clear hK K
 try refine aC ?_
 refine fA λK hK=>?_;go_wp2_with ((go_at_call 93;refine (Ua _ _ _).mono ?_;rintro e w' ⟨rfl,rfl⟩));refine hK.out _ _ ?_;clear hK K
 try refine aC ?_
 refine aD ?_;refine NoPanic.normal ?_;go_wp2;refine bG (λwL og=>?_);have hBL:Below wE.heap.size wE wL:=by rw [og];exact (((aM _ wE).alloc (aL _) _).alloc (by simp) _).drew
 have hzL:wL.heap.size=wE.heap.size+1+1:=by rw [og];simp
 have hgv:=Dz u (n:Int) GU wE;rw [aiT] at hgv;have agr:=aa (hgv.later (show Same (λb=>b=wE.heap.size\/b=wE.heap.size+1) ((wE.alloc (.cells #[.int .u64 (u:Int)] 38)).alloc (.cells #[.int .i64 (n:Int)] 3)) wL by rw [og];exact λ_ _=>rfl));simp only [Int.toNat_natCast] at agr;have Y4:=aa (X4.out.below hBL X4.out.lt);have Y5:=aa (X5.out.below hBL X5.out.lt);have Y6:=aa (X6.out.below hBL X6.out.lt);have Y7:=aa (X7.out.below hBL X7.out.lt);have Y8:=aa (X8.out.below hBL X8.out.lt);have Y9:=aa (X9.out.below hBL X9.out.lt);have YT:=aa ((HT.out.later hBE).later hBL);have YL:=aa ((HL.out.later hBE).later hBL);have YTb:=aa ((HTb.out.below hBE).below hBL);have YB:=aa (hBE.trans (hBL.mono hBE.size));have hgl:16<w.heap.size:=qx _ _ (HTb.out 0 (by decide));clear X4 X5 X6 X7 X8 X9 hBE hBL hgv k4 k7 k9 zE4 zE7 zEB HT HL HTb;replace og:=aa og;have hz0:=aa (show wL.heap.size=b0+8 by have:=QZ.out;omega);have hz1:=aa (show wE.heap.size=b0+6 from QZ.out);refine (wpIn_wide (n:=0)).1 ?_
 refine rM rfl Mf agr.out (λb hb=>by rcases hb with rfl|rfl <;> omega) (λ_=>rfl)
  (skI Q B n u h b0 M S key lp mt x1 y1 z1 wL) (skX Q B n h b0 M S key lp mt x1 y1 z1 wL) (aba _ _ _ _ _ _ _ _ _ _ _ _ _ _ _) (aa9 _ _ _ _ _ _ _ _ _ _ _ _ _ _)
  ⟨none,-1,.inl ⟨rfl,λj hj=>by omega⟩,λj hj=>by omega,Y9.out,YL.out,Y8.out,ah.refl _ _⟩
  (λT i a _=>a = { tmps:=(T.setIfInBounds 27 (.int .i64 ((bE u n i:Nat):Int))).setIfInBounds 10 (.int .i64 ((bE u n i:Nat):Int)),defers := []})
  ?assign (λ_ _ _ _ hs _ _=>hs) ?body ?done ?stop
 case assign =>
  intro l i W K hi hlt _ hK
  gi_wp2
  exact hK _ _ (KeepsFrom.refl _ _) (Same.refl _ _) hi rfl
 case body =>
  rintro l i a₁ W ⟨fp,fz,hfree,hmiss,h9,hlw,h8,hch⟩ hlt hsz rfl
  simp only [List.setIfInBounds_toArray,List.set_cons_succ,List.set_cons_zero]
  have nX:∀b,b0<=b->b≠b0+4->b≠b0+5->¬ (lp=some b\/b=b0+1+1+1+1\/b=b0+1+1+1+1+1):=by
   rintro b h1 h2 h3 (e|e|e)
   . have:=(HLP.out b e).2.2.1;have:=HB0.out;omega
   . omega
   . omega
  have nO:∀b,b<b0->lp≠some b->¬ (lp=some b\/b=b0+1+1+1+1\/b=b0+1+1+1+1+1):=by
   rintro b h1 h2 (e|e|e)
   . exact h2 e
   . omega
   . omega
  have ajw:B<b0/\Q<b0/\lp≠some B/\lp≠some Q/\lp≠some 16/\16<b0:=by
   have:=HB0.out;exact ⟨by omega,by omega,λe=>(HLP.out _ e).1 rfl,λe=>(HLP.out _ e).2.1 rfl,λe=>(HLP.out _ e).2.2.2 rfl,by omega⟩
  obtain ⟨hBb,hQb,hBl,hQl,hTl,aed⟩:=ajw;have nZ:∀b,b0<=b->lp≠some b:=λb hb e=>by have:=(HLP.out b e).2.2.1;have:=HB0.out;omega
  obtain ⟨x,hxe⟩:=dC (bE u n i);have hx:x<n:=by rw [hxe];exact nI _ _ _ (by omega)
  have hT0:=YT.out.aA hch (nO B hBb hBl) (nO Q hQb hQl);have w4:=(Y4.out.aA hch (nX _ (by omega) (by omega) (by omega))).cell 0;have w5:=(Y5.out.aA hch (nX _ (by omega) (by omega) (by omega)))
  have w50:=w5.cell 0;have w51:=w5.cell 1;have w52:=w5.cell 2;have w53:=w5.cell 3;have w0:=hT0.head.cell 0;have zW4:=(Y4.out.aA hch (nX _ (by omega) (by omega) (by omega))).lt;have zW5:=w5.lt;have zWB:=hT0.head.lt;rw [<-hxe];have MZ:=aa hxe;have K6:=aa (Y6.out.aA hch (nX _ (by omega) (by omega) (by omega)));have K7:=aa (Y7.out.aA hch (nX _ (by omega) (by omega) (by omega)));have K8:=aa h9;have K9:=aa h8;have KTb:Hid (iB W):=aa (λj hj=>(hch.cell (p:=⟨16,j,none⟩) (qx _ _ (YTb.out j hj)) (nO _ aed hTl)).trans (YTb.out j hj));have KT:=aa hT0;have KL:=aa hlw;have KC:=aa hch;have KF:=aa hfree;have KM:=aa hmiss;have m4:¬lp=some b0:=nZ _ (aL _);have m5:¬lp=some (b0+1):=nZ _ (by omega);have mB:¬lp=some B:=hBl;have LK:=aa (λ(w':World) h'=>Cg Q (x*25) q lp hq (addN mt x1 y1 z1 i) x1 y1 z1 w' h');have hxI:(x:Int)<(n:Int):=by omega
  clear hfree hmiss h9 hlw h8 hch hT0 w5 hxe
  gi_wp2
  refine GH (λb=>lp=some b) #[⟨0,0,2^28,16,1⟩,⟨1,1,2^29,2^28,0⟩,⟨2,3,2^30,2^29,0⟩,⟨4,7,2^31,2^30,1⟩,⟨0,0,2^32,1024,0⟩,⟨24,31,2^33,(2^31+2^32),0⟩,⟨0,0,2^34,32,1⟩,⟨96,127,2^35,(2^33+2^34),3⟩,⟨0,0,2048,0,2⟩,⟨511,511,0,(2^11+2^35),3⟩] 73 (.step 0 1 (.step 1 0 (.step 2 0 (.step 3 1 (.step 4 0 (.step 5 0 (.step 6 1 (.fork (.alt 7 (.step 8 2 (.step 9 3 bu.done)) (.alt 8 (.step 7 3 (.step 9 3 bu.done)) bu.none)))))))))) (by kernel_rfl) (by kernel_rfl) (by kernel_rfl) (by kernel_rfl) (by kernel_rfl) (by kernel_rfl) (λc a d v w h=>by cases d <;> exact h) (by kernel_rfl) (by rintro ⟨a,w,h⟩;exact h) ?_;refine qV Tryz.underlying85 ?_
  try refine bF ?_;refine cO ?_;refine cO ?_
  refine qV Tryz.underlying141 ?_
  try refine bF ?_;refine cO ?_;refine cO ?_
  refine ztL [_,_,_,_] Tryz.underlying50 ?_
  try refine bF ?_
  refine BH (λK hK=>?_) λK hK=>?_
  (go_wp2_with (go_at_call 88;refine (LK.out _ (KL.out.later (by exact (aM _ _).drew))).mono ?_;rintro e W1 ⟨rfl,hl1,hc1⟩;have Gx:=aa hl1;have hV:=λ(V:Nat) (T:TypeId) (c:Array Value) (hv:af _ V T c) (hl:lp≠some V)=>hv.aA hc1 hl;have hzc:=hc1.size;(try (have hv1:=hV W.heap.size 96 #[.pointer none] (by exact af.new W _ _) (nZ _ (by have:=hz0.out;omega));have hvc:=hv1.cell 0;have hvf:=hv1.frozen 0;have hvz:=hv1.lt));clear hl1);refine eQ hK (h:=?_);clear hK K)
  try refine bF ?_
  refine qU λK hK=>?_;go_wp2_with (fail);refine eQ hK (h:=?_);clear hK K
  try refine bF ?_
  refine iC λK hK=>?_;go_wp2_with (fail);refine hK.out _ _ ?_;clear hK K
  try refine bF ?_
  refine bP ?_
  rotate_left 1
  (go_wp2_with (fail);refine eQ hK (h:=?_);clear hK K)
  try refine bF ?_
  refine iC λK hK=>?_;go_wp2_with (go_at_call 88;refine (LK.out _ (KL.out.later (by exact ((aM _ _).alloc (aL _) _).drew))).mono ?_;rintro e W1 ⟨rfl,hl1,hc1⟩;have Gx:=aa hl1;have hV:=λ(V:Nat) (T:TypeId) (c:Array Value) (hv:af _ V T c) (hl:lp≠some V)=>hv.aA hc1 hl;have hzc:=hc1.size;(try (have hv1:=hV W.heap.size 96 #[.pointer none] (by exact af.new W _ _) (nZ _ (by have:=hz0.out;omega));have hvc:=hv1.cell 0;have hvf:=hv1.frozen 0;have hvz:=hv1.lt));clear hl1);refine hK.out _ _ ?_;clear hK K
  try refine bF ?_
  refine iC λK hK=>?_;go_wp2_with (fail);refine hK.out _ _ ?_;clear hK K
  try refine bF ?_
  refine bP ?_
  rotate_left 1
  rotate_right 2
  . refine Dn (λW2 hW2=>?_);obtain ⟨V,hV0⟩:=dC W1.heap.size;have hC2:ah (λb=>lp=some b) W W2:=by rw [hW2];exact hc1.bS.alloc _
    have hv2:af W2 V 96 #[.pointer (some ⟨Q,x*25,none⟩)]:=by rw [hW2,hV0];exact af.new W1 _ _
    have hl2:LW W2 lp (addN mt x1 y1 z1 (i+1)):=by rw [hW2];exact Gx.out.later ((aM _ _).alloc (aL _) _)
    have aiK:W.heap.size<=W1.heap.size:=hzc;have hVb:b0+1+1+1+1+1<V:=by have:=hz0.out;omega
    rw [<-hV0];clear hV hc1 Gx hzc hV0 aiK
    have hK:SK W2 B Q n V b0 h M S lv tb key lp (addN mt x1 y1 z1 (i+1)) fp fz x W:=by
     refine ⟨KT.out.aA hC2 hBl hQl,λj hj=>(hC2.cell (p:=⟨16,j,none⟩) (qx _ _ (KTb.out j hj)) hTl).trans (KTb.out j hj),hl2,hv2,K6.out.aA hC2 (nZ _ (by omega)),K7.out.aA hC2 (nZ _ (by omega)),K9.out.aA hC2 (nZ _ (by omega)),K8.out.aA hC2 (nZ _ (by omega)),hC2.mono (λ_ _ e => .inl e)⟩
    clear hC2 hl2 hv2 hW2;by_cases hfz:fz<0
    . have hz:decide (fz<0)=true:=by simpa using hfz
      have FR:=aa (λ(w':World) hg' hT'=>Ii Q (x*25) (M x) (S x) (hM x hx) w' hg' hT')
      have MF:Hid (iJ Q M (bE u n) (i+1) (some ⟨Q,x*25,none⟩) (dQ (M x))):=by
       have h1:=KF.out;have e1:fz = -1:=by rcases h1.neg with e|e <;> omega
       rw [e1] at h1;rw [MZ.out];exact aa h1.step
      obtain ⟨fw,hfw⟩:=dC (dQ (M x));rw [<-hfw] at MF FR;have HFW:=aa hfw;have HS:=aa hK;have HK:=aa hK;have v0:=hK.v.cell 0;have k0:=hK.k.cell 0;have h0:=hK.hb.cell 0;obtain ⟨s0,s1,s2,s3,s4,s5,s6⟩:=jH hK.s;obtain ⟨r0,r1,r2,r3,r4,r5,r6⟩:=jH hK.r;have sf:=λj=>hK.s.frozen j;have rf:=λj=>hK.r.frozen j;have zV:=hK.v.lt;have zk:=hK.k.lt;have zh:=hK.hb.lt;have zr:=hK.r.lt;have zs:=hK.s.lt;clear hK;have hsF:=λ(j:Nat)=>sf j;clear hfw
      gi_wp2
      refine gQ (λ_=>False) #[⟨0,0,2^40,2048,1⟩,⟨0,0,2^41,2048,1⟩,⟨2,2,2^42,2^41,2⟩,⟨5,7,2^43,(2^40+2^42),0⟩,⟨15,15,2^44,512,0⟩,⟨31,31,0,(2^43+2^44),3⟩] 3 [(0,1),(1,1),(2,2),(3,0),(4,0),(5,3)] (by kernel_rfl) (by kernel_rfl) (by kernel_rfl) (by kernel_rfl) (by kernel_rfl) (by kernel_rfl) (λc a d v w h=>by cases d <;> exact h) (by kernel_rfl) (by rintro ⟨a,w,h⟩;exact h) ?_;refine jR [_] Tryz.underlying96 ?_
      try refine aC ?_
      refine jR [_] Tryz.underlying96 ?_
      try refine aC ?_
      refine iK λK hK=>?_;go_wp2_with (go_at_call 95;refine (FR.out _ ((HS.out.later (aM _ _).drew).t.at' x hx) (HS.out.later (aM _ _).drew).tab).mono ?_;rintro e W3 ⟨rfl,hb3⟩;have HS3:=aa (HS.out.later (Below.bS hb3));skip;have LU:=λ(o:Nat)=>hb3.cell (p:=⟨V,o,none⟩) (by assumption);have LQ:=λ(o:Nat)=>hb3.frozen (p:=⟨V,o,none⟩) (by assumption);have Lu:V<W3.heap.size:=bM (by assumption) hb3.size;have bK:=λ(o:Nat)=>hb3.cell (p:=⟨b0+1+1+1+1,o,none⟩) (by assumption);have bJ:=λ(o:Nat)=>hb3.frozen (p:=⟨b0+1+1+1+1,o,none⟩) (by assumption);have bI:b0+1+1+1+1<W3.heap.size:=bM (by assumption) hb3.size;have aZ:=λ(o:Nat)=>hb3.cell (p:=⟨b0+1+1+1+1+1,o,none⟩) (by assumption);have aY:=λ(o:Nat)=>hb3.frozen (p:=⟨b0+1+1+1+1+1,o,none⟩) (by assumption);have aX:b0+1+1+1+1+1<W3.heap.size:=bM (by assumption) hb3.size);refine eQ hK (h:=?_);clear hK K
      try refine aC ?_;refine aj ?_;refine aj ?_
      refine fA λK hK=>?_;go_wp2_with (fail);refine hK.out _ _ ?_;clear hK K
      try refine aC ?_
      refine aD ?_
      rename_i hKQ
      refine hKQ _ _ ?_;clear hKQ;refine Dn (λW4 hW4=>?_);have hK:SK W4 B Q n V b0 h M S lv tb key lp (addN mt x1 y1 z1 (i+1)) (some ⟨Q,x*25,none⟩) fw x W:=by rw [hW4];exact HS3.out.free hBb hQb nZ hVb aed fw
      clear HS3 HS hW4 v0 k0 h0 s0 s1 s2 s3 s4 s5 s6 r0 r1 r2 r3 r4 r5 r6 sf rf zV zk zh zr zs hsF FR;have HK:=aa hK;have v0:=hK.v.cell 0;have k0:=hK.k.cell 0;have h0:=hK.hb.cell 0;obtain ⟨s0,s1,s2,s3,s4,s5,s6⟩:=jH hK.s;obtain ⟨r0,r1,r2,r3,r4,r5,r6⟩:=jH hK.r;have sf:=λj=>hK.s.frozen j;have rf:=λj=>hK.r.frozen j;have zV:=hK.v.lt;have zk:=hK.k.lt;have zh:=hK.hb.lt;have zr:=hK.r.lt;have zs:=hK.s.lt;clear hK;have FI:=aa (λ(w':World) hg' hT'=>qL Q (x*25) (M x) h (S x) key (hM x hx) hh w' hg' hT');have OP:=aa (λ(w':World) hg'=>lH Q (x*25) (M x) (S x) (hM x hx) w' hg');rcases Du (S x) key (aI (aU (M x) (h % 128))) with ef|ef
      . rw [ef] at FI;have ez:decide ((-1:Int)>=0)=false:=by decide
        have EF:=aa ef;clear ef;cases eo:bR (M x) with
        | true =>
         rw [eo] at OP;have EO:=aa eo;clear eo
         gi_wp2_with (first
          | (gi_at_call 96;refine (aW (FI.out _ (HK.out.t.at' x hx) HK.out.tab)).mono ?_;rintro e W5 ⟨rfl,hb5⟩;have oP:=aa (HK.out.later hb5);skip;have LU:=λ(o:Nat)=>hb5.cell (p:=⟨V,o,none⟩) (by assumption);have LQ:=λ(o:Nat)=>hb5.frozen (p:=⟨V,o,none⟩) (by assumption);have Lu:V<W5.heap.size:=bM (by assumption) hb5.size;have bK:=λ(o:Nat)=>hb5.cell (p:=⟨b0+1+1+1+1,o,none⟩) (by assumption);have bJ:=λ(o:Nat)=>hb5.frozen (p:=⟨b0+1+1+1+1,o,none⟩) (by assumption);have bI:b0+1+1+1+1<W5.heap.size:=bM (by assumption) hb5.size;have aZ:=λ(o:Nat)=>hb5.cell (p:=⟨b0+1+1+1+1+1,o,none⟩) (by assumption);have aY:=λ(o:Nat)=>hb5.frozen (p:=⟨b0+1+1+1+1+1,o,none⟩) (by assumption);have aX:b0+1+1+1+1+1<W5.heap.size:=bM (by assumption) hb5.size)
          | (gi_at_call 97;refine (aW (OP.out _ (oP.out.t.at' x hx))).mono ?_;rintro e W6 ⟨rfl,hb6⟩;have nG:=aa (oP.out.later hb6);skip;have LU:=λ(o:Nat)=>hb6.cell (p:=⟨V,o,none⟩) (by assumption);have LQ:=λ(o:Nat)=>hb6.frozen (p:=⟨V,o,none⟩) (by assumption);have Lu:V<W6.heap.size:=bM (by assumption) hb6.size;have bK:=λ(o:Nat)=>hb6.cell (p:=⟨b0+1+1+1+1,o,none⟩) (by assumption);have bJ:=λ(o:Nat)=>hb6.frozen (p:=⟨b0+1+1+1+1,o,none⟩) (by assumption);have bI:b0+1+1+1+1<W6.heap.size:=bM (by assumption) hb6.size;have aZ:=λ(o:Nat)=>hb6.cell (p:=⟨b0+1+1+1+1+1,o,none⟩) (by assumption);have aY:=λ(o:Nat)=>hb6.frozen (p:=⟨b0+1+1+1+1+1,o,none⟩) (by assumption);have aX:b0+1+1+1+1+1<W6.heap.size:=bM (by assumption) hb6.size))
         have hfin:ah (λb=>lp=some b\/b=b0+1+1+1+1\/b=b0+1+1+1+1+1) W _:=((((((((nG.out.c).setCell (p:=⟨b0+1+1+1+1,0,none⟩) (.inl (.inr (.inl rfl))) (.pointer (some ⟨B,0,none⟩))).setCell (p:=⟨b0+1+1+1+1,1,none⟩) (.inl (.inr (.inl rfl))) (.int .u64 key)).setCell (p:=⟨b0+1+1+1+1,2,none⟩) (.inl (.inr (.inl rfl))) (.int .u64 (h:Int))).setCell (p:=⟨b0+1+1+1+1,3,none⟩) (.inl (.inr (.inl rfl))) (.pointer (none))).setCell (p:=⟨b0+1+1+1+1,4,none⟩) (.inl (.inr (.inl rfl))) (.int .i64 ((-1)))).setCell (p:=⟨b0+1+1+1+1,5,none⟩) (.inl (.inr (.inl rfl))) (.pointer (some ⟨Q,x*25,none⟩))).setCell (p:=⟨b0+1+1+1+1,6,none⟩) (.inl (.inr (.inl rfl))) (.int .i64 (fw)))
         refine ⟨fQ hfin (by rintro b (e|e|e);exact (bM (Nat.not_le.1 (λh=>nZ b h e)) (by have:=hz0.out;omega));all_goals (have:=hz0.out;omega)),_,_,_,_,_,rfl,(AQ HU.out hlt MZ.out MF.out KM.out EF.out EO.out),?_,?_,KC.out.trans hfin⟩
         . exact (((((((nG.out.r).set 0 _).set 1 _).set 2 _).set 3 _).set 4 _).set 5 _).set 6 _
         . refine LW.aA (X:=λb=>b=b0+1+1+1+1\/b=b0+1+1+1+1+1) nG.out.l ?_ (by rintro b e (e2|e2) <;> exact nZ b (by omega) e);exact (((((((ah.refl _ _).setCell (.inl (.inl rfl)) _).setCell (.inl (.inl rfl)) _).setCell (.inl (.inl rfl)) _).setCell (.inl (.inl rfl)) _).setCell (.inl (.inl rfl)) _).setCell (.inl (.inl rfl)) _).setCell (.inl (.inl rfl)) _
        | false =>
         rw [eo] at OP;have EO:=aa eo;clear eo
         gi_wp2_with (first
          | (gi_at_call 96;refine (aW (FI.out _ (HK.out.t.at' x hx) HK.out.tab)).mono ?_;rintro e W5 ⟨rfl,hb5⟩;have oP:=aa (HK.out.later hb5);skip;have LU:=λ(o:Nat)=>hb5.cell (p:=⟨V,o,none⟩) (by assumption);have LQ:=λ(o:Nat)=>hb5.frozen (p:=⟨V,o,none⟩) (by assumption);have Lu:V<W5.heap.size:=bM (by assumption) hb5.size)
          | (gi_at_call 97;refine (aW (OP.out _ (oP.out.t.at' x hx))).mono ?_;rintro e W6 ⟨rfl,hb6⟩;have nG:=aa (oP.out.later hb6)))
         exact ⟨fQ nG.out.c (by rintro b (e|e|e);exact (bM (Nat.not_le.1 (λh=>nZ b h e)) (by have:=hz0.out;omega));all_goals (have:=hz0.out;omega)),AU nG.out.c (by rintro b (e|e) <;> (have h1:=hz0.out;have h2:=hz1.out;exact ⟨by omega,nX b (by omega) (by omega) (by omega)⟩)),_,_,MF.out,KM.out.step MZ.out EF.out EO.out,nG.out.s,nG.out.l,nG.out.r,KC.out.trans nG.out.c⟩
      . obtain ⟨k,hk⟩:=dC (eP (S x) key (aI (aU (M x) (h % 128))));rw [<-hk] at FI ef;have HKF:=aa hk;have ez:decide (k>=0)=true:=by simpa using ef
        clear hk
        gi_wp2_with (gi_at_call 96;refine (aW (FI.out _ (HK.out.t.at' x hx) HK.out.tab)).mono ?_;rintro e W5 ⟨rfl,hb5⟩;have oP:=aa (HK.out.later hb5);skip;have LU:=λ(o:Nat)=>hb5.cell (p:=⟨V,o,none⟩) (by assumption);have LQ:=λ(o:Nat)=>hb5.frozen (p:=⟨V,o,none⟩) (by assumption);have Lu:V<W5.heap.size:=bM (by assumption) hb5.size;have bK:=λ(o:Nat)=>hb5.cell (p:=⟨b0+1+1+1+1,o,none⟩) (by assumption);have bJ:=λ(o:Nat)=>hb5.frozen (p:=⟨b0+1+1+1+1,o,none⟩) (by assumption);have bI:b0+1+1+1+1<W5.heap.size:=bM (by assumption) hb5.size;have aZ:=λ(o:Nat)=>hb5.cell (p:=⟨b0+1+1+1+1+1,o,none⟩) (by assumption);have aY:=λ(o:Nat)=>hb5.frozen (p:=⟨b0+1+1+1+1+1,o,none⟩) (by assumption);have aX:b0+1+1+1+1+1<W5.heap.size:=bM (by assumption) hb5.size)
        have hfin:ah (λb=>lp=some b\/b=b0+1+1+1+1\/b=b0+1+1+1+1+1) W _:=(((((((((oP.out.c.setCell (p:=⟨b0+1+1+1+1+1,3,none⟩) (.inl (.inr (.inr rfl))) (.pointer (some ⟨Q,x*25,none⟩))).setCell (p:=⟨b0+1+1+1+1+1,4,none⟩) (.inl (.inr (.inr rfl))) (.int .i64 k)).setCell (p:=⟨b0+1+1+1+1,0,none⟩) (.inl (.inr (.inl rfl))) (.pointer (some ⟨B,0,none⟩))).setCell (p:=⟨b0+1+1+1+1,1,none⟩) (.inl (.inr (.inl rfl))) (.int .u64 key)).setCell (p:=⟨b0+1+1+1+1,2,none⟩) (.inl (.inr (.inl rfl))) (.int .u64 (h:Int))).setCell (p:=⟨b0+1+1+1+1,3,none⟩) (.inl (.inr (.inl rfl))) (.pointer (some ⟨Q,x*25,none⟩))).setCell (p:=⟨b0+1+1+1+1,4,none⟩) (.inl (.inr (.inl rfl))) (.int .i64 (k))).setCell (p:=⟨b0+1+1+1+1,5,none⟩) (.inl (.inr (.inl rfl))) (.pointer (some ⟨Q,x*25,none⟩))).setCell (p:=⟨b0+1+1+1+1,6,none⟩) (.inl (.inr (.inl rfl))) (.int .i64 (fw)))
        refine ⟨fQ hfin (by rintro b (e|e|e);exact (bM (Nat.not_le.1 (λh=>nZ b h e)) (by have:=hz0.out;omega));all_goals (have:=hz0.out;omega)),_,_,_,_,_,rfl,(qC HU.out hlt MZ.out MF.out KM.out ef HKF.out.symm),?_,?_,KC.out.trans hfin⟩
        . exact ((((((((oP.out.r.other (by omega) _ _).other (by omega) _ _).set 0 _).set 1 _).set 2 _).set 3 _).set 4 _).set 5 _).set 6 _
        . refine LW.aA (X:=λb=>b=b0+1+1+1+1\/b=b0+1+1+1+1+1) oP.out.l ?_ (by rintro b e (e2|e2) <;> exact nZ b (by omega) e);exact (((((((((ah.refl _ _).setCell (.inl (.inr rfl)) _).setCell (.inl (.inr rfl)) _).setCell (.inl (.inl rfl)) _).setCell (.inl (.inl rfl)) _).setCell (.inl (.inl rfl)) _).setCell (.inl (.inl rfl)) _).setCell (.inl (.inl rfl)) _).setCell (.inl (.inl rfl)) _).setCell (.inl (.inl rfl)) _
    . have hz:decide (fz<0)=false:=by simpa using hfz
      have MF:Hid (iJ Q M (bE u n) (i+1) fp fz):=aa (KF.out.stay (by omega));have HK:=aa hK;have v0:=hK.v.cell 0;have k0:=hK.k.cell 0;have h0:=hK.hb.cell 0;obtain ⟨s0,s1,s2,s3,s4,s5,s6⟩:=jH hK.s;obtain ⟨r0,r1,r2,r3,r4,r5,r6⟩:=jH hK.r;have sf:=λj=>hK.s.frozen j;have rf:=λj=>hK.r.frozen j;have zV:=hK.v.lt;have zk:=hK.k.lt;have zh:=hK.hb.lt;have zr:=hK.r.lt;have zs:=hK.s.lt;clear hK;have FI:=aa (λ(w':World) hg' hT'=>qL Q (x*25) (M x) h (S x) key (hM x hx) hh w' hg' hT');have OP:=aa (λ(w':World) hg'=>lH Q (x*25) (M x) (S x) (hM x hx) w' hg');rcases Du (S x) key (aI (aU (M x) (h % 128))) with ef|ef
      . rw [ef] at FI;have ez:decide ((-1:Int)>=0)=false:=by decide
        have EF:=aa ef;clear ef;cases eo:bR (M x) with
        | true =>
         rw [eo] at OP;have EO:=aa eo;clear eo
         gi_wp2_with (first
          | (gi_at_call 96;refine (aW (FI.out _ (HK.out.t.at' x hx) HK.out.tab)).mono ?_;rintro e W5 ⟨rfl,hb5⟩;have oP:=aa (HK.out.later hb5);skip;have LU:=λ(o:Nat)=>hb5.cell (p:=⟨V,o,none⟩) (by assumption);have LQ:=λ(o:Nat)=>hb5.frozen (p:=⟨V,o,none⟩) (by assumption);have Lu:V<W5.heap.size:=bM (by assumption) hb5.size;have bK:=λ(o:Nat)=>hb5.cell (p:=⟨b0+1+1+1+1,o,none⟩) (by assumption);have bJ:=λ(o:Nat)=>hb5.frozen (p:=⟨b0+1+1+1+1,o,none⟩) (by assumption);have bI:b0+1+1+1+1<W5.heap.size:=bM (by assumption) hb5.size;have aZ:=λ(o:Nat)=>hb5.cell (p:=⟨b0+1+1+1+1+1,o,none⟩) (by assumption);have aY:=λ(o:Nat)=>hb5.frozen (p:=⟨b0+1+1+1+1+1,o,none⟩) (by assumption);have aX:b0+1+1+1+1+1<W5.heap.size:=bM (by assumption) hb5.size)
          | (gi_at_call 97;refine (aW (OP.out _ (oP.out.t.at' x hx))).mono ?_;rintro e W6 ⟨rfl,hb6⟩;have nG:=aa (oP.out.later hb6);skip;have LU:=λ(o:Nat)=>hb6.cell (p:=⟨V,o,none⟩) (by assumption);have LQ:=λ(o:Nat)=>hb6.frozen (p:=⟨V,o,none⟩) (by assumption);have Lu:V<W6.heap.size:=bM (by assumption) hb6.size;have bK:=λ(o:Nat)=>hb6.cell (p:=⟨b0+1+1+1+1,o,none⟩) (by assumption);have bJ:=λ(o:Nat)=>hb6.frozen (p:=⟨b0+1+1+1+1,o,none⟩) (by assumption);have bI:b0+1+1+1+1<W6.heap.size:=bM (by assumption) hb6.size;have aZ:=λ(o:Nat)=>hb6.cell (p:=⟨b0+1+1+1+1+1,o,none⟩) (by assumption);have aY:=λ(o:Nat)=>hb6.frozen (p:=⟨b0+1+1+1+1+1,o,none⟩) (by assumption);have aX:b0+1+1+1+1+1<W6.heap.size:=bM (by assumption) hb6.size))
         have hfin:ah (λb=>lp=some b\/b=b0+1+1+1+1\/b=b0+1+1+1+1+1) W _:=((((((((nG.out.c).setCell (p:=⟨b0+1+1+1+1,0,none⟩) (.inl (.inr (.inl rfl))) (.pointer (some ⟨B,0,none⟩))).setCell (p:=⟨b0+1+1+1+1,1,none⟩) (.inl (.inr (.inl rfl))) (.int .u64 key)).setCell (p:=⟨b0+1+1+1+1,2,none⟩) (.inl (.inr (.inl rfl))) (.int .u64 (h:Int))).setCell (p:=⟨b0+1+1+1+1,3,none⟩) (.inl (.inr (.inl rfl))) (.pointer (none))).setCell (p:=⟨b0+1+1+1+1,4,none⟩) (.inl (.inr (.inl rfl))) (.int .i64 ((-1)))).setCell (p:=⟨b0+1+1+1+1,5,none⟩) (.inl (.inr (.inl rfl))) (.pointer (fp))).setCell (p:=⟨b0+1+1+1+1,6,none⟩) (.inl (.inr (.inl rfl))) (.int .i64 (fz)))
         refine ⟨fQ hfin (by rintro b (e|e|e);exact (bM (Nat.not_le.1 (λh=>nZ b h e)) (by have:=hz0.out;omega));all_goals (have:=hz0.out;omega)),_,_,_,_,_,rfl,(AQ HU.out hlt MZ.out MF.out KM.out EF.out EO.out),?_,?_,KC.out.trans hfin⟩
         . exact (((((((nG.out.r).set 0 _).set 1 _).set 2 _).set 3 _).set 4 _).set 5 _).set 6 _
         . refine LW.aA (X:=λb=>b=b0+1+1+1+1\/b=b0+1+1+1+1+1) nG.out.l ?_ (by rintro b e (e2|e2) <;> exact nZ b (by omega) e);exact (((((((ah.refl _ _).setCell (.inl (.inl rfl)) _).setCell (.inl (.inl rfl)) _).setCell (.inl (.inl rfl)) _).setCell (.inl (.inl rfl)) _).setCell (.inl (.inl rfl)) _).setCell (.inl (.inl rfl)) _).setCell (.inl (.inl rfl)) _
        | false =>
         rw [eo] at OP;have EO:=aa eo;clear eo
         gi_wp2_with (first
          | (gi_at_call 96;refine (aW (FI.out _ (HK.out.t.at' x hx) HK.out.tab)).mono ?_;rintro e W5 ⟨rfl,hb5⟩;have oP:=aa (HK.out.later hb5);skip;have LU:=λ(o:Nat)=>hb5.cell (p:=⟨V,o,none⟩) (by assumption);have LQ:=λ(o:Nat)=>hb5.frozen (p:=⟨V,o,none⟩) (by assumption);have Lu:V<W5.heap.size:=bM (by assumption) hb5.size)
          | (gi_at_call 97;refine (aW (OP.out _ (oP.out.t.at' x hx))).mono ?_;rintro e W6 ⟨rfl,hb6⟩;have nG:=aa (oP.out.later hb6)))
         exact ⟨fQ nG.out.c (by rintro b (e|e|e);exact (bM (Nat.not_le.1 (λh=>nZ b h e)) (by have:=hz0.out;omega));all_goals (have:=hz0.out;omega)),AU nG.out.c (by rintro b (e|e) <;> (have h1:=hz0.out;have h2:=hz1.out;exact ⟨by omega,nX b (by omega) (by omega) (by omega)⟩)),_,_,MF.out,KM.out.step MZ.out EF.out EO.out,nG.out.s,nG.out.l,nG.out.r,KC.out.trans nG.out.c⟩
      . obtain ⟨k,hk⟩:=dC (eP (S x) key (aI (aU (M x) (h % 128))));rw [<-hk] at FI ef;have HKF:=aa hk;have ez:decide (k>=0)=true:=by simpa using ef
        clear hk
        gi_wp2_with (gi_at_call 96;refine (aW (FI.out _ (HK.out.t.at' x hx) HK.out.tab)).mono ?_;rintro e W5 ⟨rfl,hb5⟩;have oP:=aa (HK.out.later hb5);skip;have LU:=λ(o:Nat)=>hb5.cell (p:=⟨V,o,none⟩) (by assumption);have LQ:=λ(o:Nat)=>hb5.frozen (p:=⟨V,o,none⟩) (by assumption);have Lu:V<W5.heap.size:=bM (by assumption) hb5.size;have bK:=λ(o:Nat)=>hb5.cell (p:=⟨b0+1+1+1+1,o,none⟩) (by assumption);have bJ:=λ(o:Nat)=>hb5.frozen (p:=⟨b0+1+1+1+1,o,none⟩) (by assumption);have bI:b0+1+1+1+1<W5.heap.size:=bM (by assumption) hb5.size;have aZ:=λ(o:Nat)=>hb5.cell (p:=⟨b0+1+1+1+1+1,o,none⟩) (by assumption);have aY:=λ(o:Nat)=>hb5.frozen (p:=⟨b0+1+1+1+1+1,o,none⟩) (by assumption);have aX:b0+1+1+1+1+1<W5.heap.size:=bM (by assumption) hb5.size)
        have hfin:ah (λb=>lp=some b\/b=b0+1+1+1+1\/b=b0+1+1+1+1+1) W _:=(((((((((oP.out.c.setCell (p:=⟨b0+1+1+1+1+1,3,none⟩) (.inl (.inr (.inr rfl))) (.pointer (some ⟨Q,x*25,none⟩))).setCell (p:=⟨b0+1+1+1+1+1,4,none⟩) (.inl (.inr (.inr rfl))) (.int .i64 k)).setCell (p:=⟨b0+1+1+1+1,0,none⟩) (.inl (.inr (.inl rfl))) (.pointer (some ⟨B,0,none⟩))).setCell (p:=⟨b0+1+1+1+1,1,none⟩) (.inl (.inr (.inl rfl))) (.int .u64 key)).setCell (p:=⟨b0+1+1+1+1,2,none⟩) (.inl (.inr (.inl rfl))) (.int .u64 (h:Int))).setCell (p:=⟨b0+1+1+1+1,3,none⟩) (.inl (.inr (.inl rfl))) (.pointer (some ⟨Q,x*25,none⟩))).setCell (p:=⟨b0+1+1+1+1,4,none⟩) (.inl (.inr (.inl rfl))) (.int .i64 (k))).setCell (p:=⟨b0+1+1+1+1,5,none⟩) (.inl (.inr (.inl rfl))) (.pointer (fp))).setCell (p:=⟨b0+1+1+1+1,6,none⟩) (.inl (.inr (.inl rfl))) (.int .i64 (fz)))
        refine ⟨fQ hfin (by rintro b (e|e|e);exact (bM (Nat.not_le.1 (λh=>nZ b h e)) (by have:=hz0.out;omega));all_goals (have:=hz0.out;omega)),_,_,_,_,_,rfl,(qC HU.out hlt MZ.out MF.out KM.out ef HKF.out.symm),?_,?_,KC.out.trans hfin⟩
        . exact ((((((((oP.out.r.other (by omega) _ _).other (by omega) _ _).set 0 _).set 1 _).set 2 _).set 3 _).set 4 _).set 5 _).set 6 _
        . refine LW.aA (X:=λb=>b=b0+1+1+1+1\/b=b0+1+1+1+1+1) oP.out.l ?_ (by rintro b e (e2|e2) <;> exact nZ b (by omega) e);exact (((((((((ah.refl _ _).setCell (.inl (.inr rfl)) _).setCell (.inl (.inr rfl)) _).setCell (.inl (.inl rfl)) _).setCell (.inl (.inl rfl)) _).setCell (.inl (.inl rfl)) _).setCell (.inl (.inl rfl)) _).setCell (.inl (.inl rfl)) _).setCell (.inl (.inl rfl)) _).setCell (.inl (.inl rfl)) _
  . rename_i hKK
    refine hKK _ _ ?_;refine Dn (λW2 hW2=>?_);obtain ⟨V,hV0⟩:=dC W.heap.size;have hC2:ah (λb=>lp=some b) W W2:=by rw [hW2];exact (((ah.refl _ _).alloc _).trans hc1.bS).setCell (.inr (aL _)) _
    have hv2:af W2 V 96 #[.pointer (some ⟨Q,x*25,none⟩)]:=by rw [hW2,hV0];exact hv1.set 0 _
    have hl2:LW W2 lp (addN mt x1 y1 z1 (i+1)):=by rw [hW2];exact Gx.out.aA (X:=λb=>b=W.heap.size) ((ah.refl _ _).set1 _ _) (λM' e e2=>nZ M' (by have:=hz0.out;omega) e)
    have hVb:b0+1+1+1+1+1<V:=by have:=hz0.out;omega
    rw [<-hV0];clear hV hc1 Gx hzc hV0 hv1 hvc hvf hvz hKK
    have hK:SK W2 B Q n V b0 h M S lv tb key lp (addN mt x1 y1 z1 (i+1)) fp fz x W:=by
     refine ⟨KT.out.aA hC2 hBl hQl,λj hj=>(hC2.cell (p:=⟨16,j,none⟩) (qx _ _ (KTb.out j hj)) hTl).trans (KTb.out j hj),hl2,hv2,K6.out.aA hC2 (nZ _ (by omega)),K7.out.aA hC2 (nZ _ (by omega)),K9.out.aA hC2 (nZ _ (by omega)),K8.out.aA hC2 (nZ _ (by omega)),hC2.mono (λ_ _ e => .inl e)⟩
    clear hC2 hl2 hv2 hW2;by_cases hfz:fz<0
    . have hz:decide (fz<0)=true:=by simpa using hfz
      have FR:=aa (λ(w':World) hg' hT'=>Ii Q (x*25) (M x) (S x) (hM x hx) w' hg' hT')
      have MF:Hid (iJ Q M (bE u n) (i+1) (some ⟨Q,x*25,none⟩) (dQ (M x))):=by
       have h1:=KF.out;have e1:fz = -1:=by rcases h1.neg with e|e <;> omega
       rw [e1] at h1;rw [MZ.out];exact aa h1.step
      obtain ⟨fw,hfw⟩:=dC (dQ (M x));rw [<-hfw] at MF FR;have HFW:=aa hfw;have HS:=aa hK;have HK:=aa hK;have v0:=hK.v.cell 0;have k0:=hK.k.cell 0;have h0:=hK.hb.cell 0;obtain ⟨s0,s1,s2,s3,s4,s5,s6⟩:=jH hK.s;obtain ⟨r0,r1,r2,r3,r4,r5,r6⟩:=jH hK.r;have sf:=λj=>hK.s.frozen j;have rf:=λj=>hK.r.frozen j;have zV:=hK.v.lt;have zk:=hK.k.lt;have zh:=hK.hb.lt;have zr:=hK.r.lt;have zs:=hK.s.lt;clear hK;have hsF:=λ(j:Nat)=>sf j;clear hfw
      gi_wp2
      refine gQ (λ_=>False) #[⟨0,0,2^40,2048,1⟩,⟨0,0,2^41,2048,1⟩,⟨2,2,2^42,2^41,2⟩,⟨5,7,2^43,(2^40+2^42),0⟩,⟨15,15,2^44,512,0⟩,⟨31,31,0,(2^43+2^44),3⟩] 3 [(0,1),(1,1),(2,2),(3,0),(4,0),(5,3)] (by kernel_rfl) (by kernel_rfl) (by kernel_rfl) (by kernel_rfl) (by kernel_rfl) (by kernel_rfl) (λc a d v w h=>by cases d <;> exact h) (by kernel_rfl) (by rintro ⟨a,w,h⟩;exact h) ?_;refine jR [_] Tryz.underlying96 ?_
      try refine aC ?_
      refine jR [_] Tryz.underlying96 ?_
      try refine aC ?_
      refine iK λK hK=>?_;go_wp2_with (go_at_call 95;refine (FR.out _ ((HS.out.later (aM _ _).drew).t.at' x hx) (HS.out.later (aM _ _).drew).tab).mono ?_;rintro e W3 ⟨rfl,hb3⟩;have HS3:=aa (HS.out.later (Below.bS hb3));skip;have LU:=λ(o:Nat)=>hb3.cell (p:=⟨V,o,none⟩) (by assumption);have LQ:=λ(o:Nat)=>hb3.frozen (p:=⟨V,o,none⟩) (by assumption);have Lu:V<W3.heap.size:=bM (by assumption) hb3.size;have bK:=λ(o:Nat)=>hb3.cell (p:=⟨b0+1+1+1+1,o,none⟩) (by assumption);have bJ:=λ(o:Nat)=>hb3.frozen (p:=⟨b0+1+1+1+1,o,none⟩) (by assumption);have bI:b0+1+1+1+1<W3.heap.size:=bM (by assumption) hb3.size;have aZ:=λ(o:Nat)=>hb3.cell (p:=⟨b0+1+1+1+1+1,o,none⟩) (by assumption);have aY:=λ(o:Nat)=>hb3.frozen (p:=⟨b0+1+1+1+1+1,o,none⟩) (by assumption);have aX:b0+1+1+1+1+1<W3.heap.size:=bM (by assumption) hb3.size);refine eQ hK (h:=?_);clear hK K
      try refine aC ?_;refine aj ?_;refine aj ?_
      refine fA λK hK=>?_;go_wp2_with (fail);refine hK.out _ _ ?_;clear hK K
      try refine aC ?_
      refine aD ?_
      rename_i hKQ
      refine hKQ _ _ ?_;clear hKQ;refine Dn (λW4 hW4=>?_);have hK:SK W4 B Q n V b0 h M S lv tb key lp (addN mt x1 y1 z1 (i+1)) (some ⟨Q,x*25,none⟩) fw x W:=by rw [hW4];exact HS3.out.free hBb hQb nZ hVb aed fw
      clear HS3 HS hW4 v0 k0 h0 s0 s1 s2 s3 s4 s5 s6 r0 r1 r2 r3 r4 r5 r6 sf rf zV zk zh zr zs hsF FR;have HK:=aa hK;have v0:=hK.v.cell 0;have k0:=hK.k.cell 0;have h0:=hK.hb.cell 0;obtain ⟨s0,s1,s2,s3,s4,s5,s6⟩:=jH hK.s;obtain ⟨r0,r1,r2,r3,r4,r5,r6⟩:=jH hK.r;have sf:=λj=>hK.s.frozen j;have rf:=λj=>hK.r.frozen j;have zV:=hK.v.lt;have zk:=hK.k.lt;have zh:=hK.hb.lt;have zr:=hK.r.lt;have zs:=hK.s.lt;clear hK;have FI:=aa (λ(w':World) hg' hT'=>qL Q (x*25) (M x) h (S x) key (hM x hx) hh w' hg' hT');have OP:=aa (λ(w':World) hg'=>lH Q (x*25) (M x) (S x) (hM x hx) w' hg');rcases Du (S x) key (aI (aU (M x) (h % 128))) with ef|ef
      . rw [ef] at FI;have ez:decide ((-1:Int)>=0)=false:=by decide
        have EF:=aa ef;clear ef;cases eo:bR (M x) with
        | true =>
         rw [eo] at OP;have EO:=aa eo;clear eo
         gi_wp2_with (first
          | (gi_at_call 96;refine (aW (FI.out _ (HK.out.t.at' x hx) HK.out.tab)).mono ?_;rintro e W5 ⟨rfl,hb5⟩;have oP:=aa (HK.out.later hb5);skip;have LU:=λ(o:Nat)=>hb5.cell (p:=⟨V,o,none⟩) (by assumption);have LQ:=λ(o:Nat)=>hb5.frozen (p:=⟨V,o,none⟩) (by assumption);have Lu:V<W5.heap.size:=bM (by assumption) hb5.size;have bK:=λ(o:Nat)=>hb5.cell (p:=⟨b0+1+1+1+1,o,none⟩) (by assumption);have bJ:=λ(o:Nat)=>hb5.frozen (p:=⟨b0+1+1+1+1,o,none⟩) (by assumption);have bI:b0+1+1+1+1<W5.heap.size:=bM (by assumption) hb5.size;have aZ:=λ(o:Nat)=>hb5.cell (p:=⟨b0+1+1+1+1+1,o,none⟩) (by assumption);have aY:=λ(o:Nat)=>hb5.frozen (p:=⟨b0+1+1+1+1+1,o,none⟩) (by assumption);have aX:b0+1+1+1+1+1<W5.heap.size:=bM (by assumption) hb5.size)
          | (gi_at_call 97;refine (aW (OP.out _ (oP.out.t.at' x hx))).mono ?_;rintro e W6 ⟨rfl,hb6⟩;have nG:=aa (oP.out.later hb6);skip;have LU:=λ(o:Nat)=>hb6.cell (p:=⟨V,o,none⟩) (by assumption);have LQ:=λ(o:Nat)=>hb6.frozen (p:=⟨V,o,none⟩) (by assumption);have Lu:V<W6.heap.size:=bM (by assumption) hb6.size;have bK:=λ(o:Nat)=>hb6.cell (p:=⟨b0+1+1+1+1,o,none⟩) (by assumption);have bJ:=λ(o:Nat)=>hb6.frozen (p:=⟨b0+1+1+1+1,o,none⟩) (by assumption);have bI:b0+1+1+1+1<W6.heap.size:=bM (by assumption) hb6.size;have aZ:=λ(o:Nat)=>hb6.cell (p:=⟨b0+1+1+1+1+1,o,none⟩) (by assumption);have aY:=λ(o:Nat)=>hb6.frozen (p:=⟨b0+1+1+1+1+1,o,none⟩) (by assumption);have aX:b0+1+1+1+1+1<W6.heap.size:=bM (by assumption) hb6.size))
         have hfin:ah (λb=>lp=some b\/b=b0+1+1+1+1\/b=b0+1+1+1+1+1) W _:=((((((((nG.out.c).setCell (p:=⟨b0+1+1+1+1,0,none⟩) (.inl (.inr (.inl rfl))) (.pointer (some ⟨B,0,none⟩))).setCell (p:=⟨b0+1+1+1+1,1,none⟩) (.inl (.inr (.inl rfl))) (.int .u64 key)).setCell (p:=⟨b0+1+1+1+1,2,none⟩) (.inl (.inr (.inl rfl))) (.int .u64 (h:Int))).setCell (p:=⟨b0+1+1+1+1,3,none⟩) (.inl (.inr (.inl rfl))) (.pointer (none))).setCell (p:=⟨b0+1+1+1+1,4,none⟩) (.inl (.inr (.inl rfl))) (.int .i64 ((-1)))).setCell (p:=⟨b0+1+1+1+1,5,none⟩) (.inl (.inr (.inl rfl))) (.pointer (some ⟨Q,x*25,none⟩))).setCell (p:=⟨b0+1+1+1+1,6,none⟩) (.inl (.inr (.inl rfl))) (.int .i64 (fw)))
         refine ⟨fQ hfin (by rintro b (e|e|e);exact (bM (Nat.not_le.1 (λh=>nZ b h e)) (by have:=hz0.out;omega));all_goals (have:=hz0.out;omega)),_,_,_,_,_,rfl,(AQ HU.out hlt MZ.out MF.out KM.out EF.out EO.out),?_,?_,KC.out.trans hfin⟩
         . exact (((((((nG.out.r).set 0 _).set 1 _).set 2 _).set 3 _).set 4 _).set 5 _).set 6 _
         . refine LW.aA (X:=λb=>b=b0+1+1+1+1\/b=b0+1+1+1+1+1) nG.out.l ?_ (by rintro b e (e2|e2) <;> exact nZ b (by omega) e);exact (((((((ah.refl _ _).setCell (.inl (.inl rfl)) _).setCell (.inl (.inl rfl)) _).setCell (.inl (.inl rfl)) _).setCell (.inl (.inl rfl)) _).setCell (.inl (.inl rfl)) _).setCell (.inl (.inl rfl)) _).setCell (.inl (.inl rfl)) _
        | false =>
         rw [eo] at OP;have EO:=aa eo;clear eo
         gi_wp2_with (first
          | (gi_at_call 96;refine (aW (FI.out _ (HK.out.t.at' x hx) HK.out.tab)).mono ?_;rintro e W5 ⟨rfl,hb5⟩;have oP:=aa (HK.out.later hb5);skip;have LU:=λ(o:Nat)=>hb5.cell (p:=⟨V,o,none⟩) (by assumption);have LQ:=λ(o:Nat)=>hb5.frozen (p:=⟨V,o,none⟩) (by assumption);have Lu:V<W5.heap.size:=bM (by assumption) hb5.size)
          | (gi_at_call 97;refine (aW (OP.out _ (oP.out.t.at' x hx))).mono ?_;rintro e W6 ⟨rfl,hb6⟩;have nG:=aa (oP.out.later hb6)))
         exact ⟨fQ nG.out.c (by rintro b (e|e|e);exact (bM (Nat.not_le.1 (λh=>nZ b h e)) (by have:=hz0.out;omega));all_goals (have:=hz0.out;omega)),AU nG.out.c (by rintro b (e|e) <;> (have h1:=hz0.out;have h2:=hz1.out;exact ⟨by omega,nX b (by omega) (by omega) (by omega)⟩)),_,_,MF.out,KM.out.step MZ.out EF.out EO.out,nG.out.s,nG.out.l,nG.out.r,KC.out.trans nG.out.c⟩
      . obtain ⟨k,hk⟩:=dC (eP (S x) key (aI (aU (M x) (h % 128))));rw [<-hk] at FI ef;have HKF:=aa hk;have ez:decide (k>=0)=true:=by simpa using ef
        clear hk
        gi_wp2_with (gi_at_call 96;refine (aW (FI.out _ (HK.out.t.at' x hx) HK.out.tab)).mono ?_;rintro e W5 ⟨rfl,hb5⟩;have oP:=aa (HK.out.later hb5);skip;have LU:=λ(o:Nat)=>hb5.cell (p:=⟨V,o,none⟩) (by assumption);have LQ:=λ(o:Nat)=>hb5.frozen (p:=⟨V,o,none⟩) (by assumption);have Lu:V<W5.heap.size:=bM (by assumption) hb5.size;have bK:=λ(o:Nat)=>hb5.cell (p:=⟨b0+1+1+1+1,o,none⟩) (by assumption);have bJ:=λ(o:Nat)=>hb5.frozen (p:=⟨b0+1+1+1+1,o,none⟩) (by assumption);have bI:b0+1+1+1+1<W5.heap.size:=bM (by assumption) hb5.size;have aZ:=λ(o:Nat)=>hb5.cell (p:=⟨b0+1+1+1+1+1,o,none⟩) (by assumption);have aY:=λ(o:Nat)=>hb5.frozen (p:=⟨b0+1+1+1+1+1,o,none⟩) (by assumption);have aX:b0+1+1+1+1+1<W5.heap.size:=bM (by assumption) hb5.size)
        have hfin:ah (λb=>lp=some b\/b=b0+1+1+1+1\/b=b0+1+1+1+1+1) W _:=(((((((((oP.out.c.setCell (p:=⟨b0+1+1+1+1+1,3,none⟩) (.inl (.inr (.inr rfl))) (.pointer (some ⟨Q,x*25,none⟩))).setCell (p:=⟨b0+1+1+1+1+1,4,none⟩) (.inl (.inr (.inr rfl))) (.int .i64 k)).setCell (p:=⟨b0+1+1+1+1,0,none⟩) (.inl (.inr (.inl rfl))) (.pointer (some ⟨B,0,none⟩))).setCell (p:=⟨b0+1+1+1+1,1,none⟩) (.inl (.inr (.inl rfl))) (.int .u64 key)).setCell (p:=⟨b0+1+1+1+1,2,none⟩) (.inl (.inr (.inl rfl))) (.int .u64 (h:Int))).setCell (p:=⟨b0+1+1+1+1,3,none⟩) (.inl (.inr (.inl rfl))) (.pointer (some ⟨Q,x*25,none⟩))).setCell (p:=⟨b0+1+1+1+1,4,none⟩) (.inl (.inr (.inl rfl))) (.int .i64 (k))).setCell (p:=⟨b0+1+1+1+1,5,none⟩) (.inl (.inr (.inl rfl))) (.pointer (some ⟨Q,x*25,none⟩))).setCell (p:=⟨b0+1+1+1+1,6,none⟩) (.inl (.inr (.inl rfl))) (.int .i64 (fw)))
        refine ⟨fQ hfin (by rintro b (e|e|e);exact (bM (Nat.not_le.1 (λh=>nZ b h e)) (by have:=hz0.out;omega));all_goals (have:=hz0.out;omega)),_,_,_,_,_,rfl,(qC HU.out hlt MZ.out MF.out KM.out ef HKF.out.symm),?_,?_,KC.out.trans hfin⟩
        . exact ((((((((oP.out.r.other (by omega) _ _).other (by omega) _ _).set 0 _).set 1 _).set 2 _).set 3 _).set 4 _).set 5 _).set 6 _
        . refine LW.aA (X:=λb=>b=b0+1+1+1+1\/b=b0+1+1+1+1+1) oP.out.l ?_ (by rintro b e (e2|e2) <;> exact nZ b (by omega) e);exact (((((((((ah.refl _ _).setCell (.inl (.inr rfl)) _).setCell (.inl (.inr rfl)) _).setCell (.inl (.inl rfl)) _).setCell (.inl (.inl rfl)) _).setCell (.inl (.inl rfl)) _).setCell (.inl (.inl rfl)) _).setCell (.inl (.inl rfl)) _).setCell (.inl (.inl rfl)) _).setCell (.inl (.inl rfl)) _
    . have hz:decide (fz<0)=false:=by simpa using hfz
      have MF:Hid (iJ Q M (bE u n) (i+1) fp fz):=aa (KF.out.stay (by omega));have HK:=aa hK;have v0:=hK.v.cell 0;have k0:=hK.k.cell 0;have h0:=hK.hb.cell 0;obtain ⟨s0,s1,s2,s3,s4,s5,s6⟩:=jH hK.s;obtain ⟨r0,r1,r2,r3,r4,r5,r6⟩:=jH hK.r;have sf:=λj=>hK.s.frozen j;have rf:=λj=>hK.r.frozen j;have zV:=hK.v.lt;have zk:=hK.k.lt;have zh:=hK.hb.lt;have zr:=hK.r.lt;have zs:=hK.s.lt;clear hK;have FI:=aa (λ(w':World) hg' hT'=>qL Q (x*25) (M x) h (S x) key (hM x hx) hh w' hg' hT');have OP:=aa (λ(w':World) hg'=>lH Q (x*25) (M x) (S x) (hM x hx) w' hg');rcases Du (S x) key (aI (aU (M x) (h % 128))) with ef|ef
      . rw [ef] at FI;have ez:decide ((-1:Int)>=0)=false:=by decide
        have EF:=aa ef;clear ef;cases eo:bR (M x) with
        | true =>
         rw [eo] at OP;have EO:=aa eo;clear eo
         gi_wp2_with (first
          | (gi_at_call 96;refine (aW (FI.out _ (HK.out.t.at' x hx) HK.out.tab)).mono ?_;rintro e W5 ⟨rfl,hb5⟩;have oP:=aa (HK.out.later hb5);skip;have LU:=λ(o:Nat)=>hb5.cell (p:=⟨V,o,none⟩) (by assumption);have LQ:=λ(o:Nat)=>hb5.frozen (p:=⟨V,o,none⟩) (by assumption);have Lu:V<W5.heap.size:=bM (by assumption) hb5.size;have bK:=λ(o:Nat)=>hb5.cell (p:=⟨b0+1+1+1+1,o,none⟩) (by assumption);have bJ:=λ(o:Nat)=>hb5.frozen (p:=⟨b0+1+1+1+1,o,none⟩) (by assumption);have bI:b0+1+1+1+1<W5.heap.size:=bM (by assumption) hb5.size;have aZ:=λ(o:Nat)=>hb5.cell (p:=⟨b0+1+1+1+1+1,o,none⟩) (by assumption);have aY:=λ(o:Nat)=>hb5.frozen (p:=⟨b0+1+1+1+1+1,o,none⟩) (by assumption);have aX:b0+1+1+1+1+1<W5.heap.size:=bM (by assumption) hb5.size)
          | (gi_at_call 97;refine (aW (OP.out _ (oP.out.t.at' x hx))).mono ?_;rintro e W6 ⟨rfl,hb6⟩;have nG:=aa (oP.out.later hb6);skip;have LU:=λ(o:Nat)=>hb6.cell (p:=⟨V,o,none⟩) (by assumption);have LQ:=λ(o:Nat)=>hb6.frozen (p:=⟨V,o,none⟩) (by assumption);have Lu:V<W6.heap.size:=bM (by assumption) hb6.size;have bK:=λ(o:Nat)=>hb6.cell (p:=⟨b0+1+1+1+1,o,none⟩) (by assumption);have bJ:=λ(o:Nat)=>hb6.frozen (p:=⟨b0+1+1+1+1,o,none⟩) (by assumption);have bI:b0+1+1+1+1<W6.heap.size:=bM (by assumption) hb6.size;have aZ:=λ(o:Nat)=>hb6.cell (p:=⟨b0+1+1+1+1+1,o,none⟩) (by assumption);have aY:=λ(o:Nat)=>hb6.frozen (p:=⟨b0+1+1+1+1+1,o,none⟩) (by assumption);have aX:b0+1+1+1+1+1<W6.heap.size:=bM (by assumption) hb6.size))
         have hfin:ah (λb=>lp=some b\/b=b0+1+1+1+1\/b=b0+1+1+1+1+1) W _:=((((((((nG.out.c).setCell (p:=⟨b0+1+1+1+1,0,none⟩) (.inl (.inr (.inl rfl))) (.pointer (some ⟨B,0,none⟩))).setCell (p:=⟨b0+1+1+1+1,1,none⟩) (.inl (.inr (.inl rfl))) (.int .u64 key)).setCell (p:=⟨b0+1+1+1+1,2,none⟩) (.inl (.inr (.inl rfl))) (.int .u64 (h:Int))).setCell (p:=⟨b0+1+1+1+1,3,none⟩) (.inl (.inr (.inl rfl))) (.pointer (none))).setCell (p:=⟨b0+1+1+1+1,4,none⟩) (.inl (.inr (.inl rfl))) (.int .i64 ((-1)))).setCell (p:=⟨b0+1+1+1+1,5,none⟩) (.inl (.inr (.inl rfl))) (.pointer (fp))).setCell (p:=⟨b0+1+1+1+1,6,none⟩) (.inl (.inr (.inl rfl))) (.int .i64 (fz)))
         refine ⟨fQ hfin (by rintro b (e|e|e);exact (bM (Nat.not_le.1 (λh=>nZ b h e)) (by have:=hz0.out;omega));all_goals (have:=hz0.out;omega)),_,_,_,_,_,rfl,(AQ HU.out hlt MZ.out MF.out KM.out EF.out EO.out),?_,?_,KC.out.trans hfin⟩
         . exact (((((((nG.out.r).set 0 _).set 1 _).set 2 _).set 3 _).set 4 _).set 5 _).set 6 _
         . refine LW.aA (X:=λb=>b=b0+1+1+1+1\/b=b0+1+1+1+1+1) nG.out.l ?_ (by rintro b e (e2|e2) <;> exact nZ b (by omega) e);exact (((((((ah.refl _ _).setCell (.inl (.inl rfl)) _).setCell (.inl (.inl rfl)) _).setCell (.inl (.inl rfl)) _).setCell (.inl (.inl rfl)) _).setCell (.inl (.inl rfl)) _).setCell (.inl (.inl rfl)) _).setCell (.inl (.inl rfl)) _
        | false =>
         rw [eo] at OP;have EO:=aa eo;clear eo
         gi_wp2_with (first
          | (gi_at_call 96;refine (aW (FI.out _ (HK.out.t.at' x hx) HK.out.tab)).mono ?_;rintro e W5 ⟨rfl,hb5⟩;have oP:=aa (HK.out.later hb5);skip;have LU:=λ(o:Nat)=>hb5.cell (p:=⟨V,o,none⟩) (by assumption);have LQ:=λ(o:Nat)=>hb5.frozen (p:=⟨V,o,none⟩) (by assumption);have Lu:V<W5.heap.size:=bM (by assumption) hb5.size)
          | (gi_at_call 97;refine (aW (OP.out _ (oP.out.t.at' x hx))).mono ?_;rintro e W6 ⟨rfl,hb6⟩;have nG:=aa (oP.out.later hb6)))
         exact ⟨fQ nG.out.c (by rintro b (e|e|e);exact (bM (Nat.not_le.1 (λh=>nZ b h e)) (by have:=hz0.out;omega));all_goals (have:=hz0.out;omega)),AU nG.out.c (by rintro b (e|e) <;> (have h1:=hz0.out;have h2:=hz1.out;exact ⟨by omega,nX b (by omega) (by omega) (by omega)⟩)),_,_,MF.out,KM.out.step MZ.out EF.out EO.out,nG.out.s,nG.out.l,nG.out.r,KC.out.trans nG.out.c⟩
      . obtain ⟨k,hk⟩:=dC (eP (S x) key (aI (aU (M x) (h % 128))));rw [<-hk] at FI ef;have HKF:=aa hk;have ez:decide (k>=0)=true:=by simpa using ef
        clear hk
        gi_wp2_with (gi_at_call 96;refine (aW (FI.out _ (HK.out.t.at' x hx) HK.out.tab)).mono ?_;rintro e W5 ⟨rfl,hb5⟩;have oP:=aa (HK.out.later hb5);skip;have LU:=λ(o:Nat)=>hb5.cell (p:=⟨V,o,none⟩) (by assumption);have LQ:=λ(o:Nat)=>hb5.frozen (p:=⟨V,o,none⟩) (by assumption);have Lu:V<W5.heap.size:=bM (by assumption) hb5.size;have bK:=λ(o:Nat)=>hb5.cell (p:=⟨b0+1+1+1+1,o,none⟩) (by assumption);have bJ:=λ(o:Nat)=>hb5.frozen (p:=⟨b0+1+1+1+1,o,none⟩) (by assumption);have bI:b0+1+1+1+1<W5.heap.size:=bM (by assumption) hb5.size;have aZ:=λ(o:Nat)=>hb5.cell (p:=⟨b0+1+1+1+1+1,o,none⟩) (by assumption);have aY:=λ(o:Nat)=>hb5.frozen (p:=⟨b0+1+1+1+1+1,o,none⟩) (by assumption);have aX:b0+1+1+1+1+1<W5.heap.size:=bM (by assumption) hb5.size)
        have hfin:ah (λb=>lp=some b\/b=b0+1+1+1+1\/b=b0+1+1+1+1+1) W _:=(((((((((oP.out.c.setCell (p:=⟨b0+1+1+1+1+1,3,none⟩) (.inl (.inr (.inr rfl))) (.pointer (some ⟨Q,x*25,none⟩))).setCell (p:=⟨b0+1+1+1+1+1,4,none⟩) (.inl (.inr (.inr rfl))) (.int .i64 k)).setCell (p:=⟨b0+1+1+1+1,0,none⟩) (.inl (.inr (.inl rfl))) (.pointer (some ⟨B,0,none⟩))).setCell (p:=⟨b0+1+1+1+1,1,none⟩) (.inl (.inr (.inl rfl))) (.int .u64 key)).setCell (p:=⟨b0+1+1+1+1,2,none⟩) (.inl (.inr (.inl rfl))) (.int .u64 (h:Int))).setCell (p:=⟨b0+1+1+1+1,3,none⟩) (.inl (.inr (.inl rfl))) (.pointer (some ⟨Q,x*25,none⟩))).setCell (p:=⟨b0+1+1+1+1,4,none⟩) (.inl (.inr (.inl rfl))) (.int .i64 (k))).setCell (p:=⟨b0+1+1+1+1,5,none⟩) (.inl (.inr (.inl rfl))) (.pointer (fp))).setCell (p:=⟨b0+1+1+1+1,6,none⟩) (.inl (.inr (.inl rfl))) (.int .i64 (fz)))
        refine ⟨fQ hfin (by rintro b (e|e|e);exact (bM (Nat.not_le.1 (λh=>nZ b h e)) (by have:=hz0.out;omega));all_goals (have:=hz0.out;omega)),_,_,_,_,_,rfl,(qC HU.out hlt MZ.out MF.out KM.out ef HKF.out.symm),?_,?_,KC.out.trans hfin⟩
        . exact ((((((((oP.out.r.other (by omega) _ _).other (by omega) _ _).set 0 _).set 1 _).set 2 _).set 3 _).set 4 _).set 5 _).set 6 _
        . refine LW.aA (X:=λb=>b=b0+1+1+1+1\/b=b0+1+1+1+1+1) oP.out.l ?_ (by rintro b e (e2|e2) <;> exact nZ b (by omega) e);exact (((((((((ah.refl _ _).setCell (.inl (.inr rfl)) _).setCell (.inl (.inr rfl)) _).setCell (.inl (.inl rfl)) _).setCell (.inl (.inl rfl)) _).setCell (.inl (.inl rfl)) _).setCell (.inl (.inl rfl)) _).setCell (.inl (.inl rfl)) _).setCell (.inl (.inl rfl)) _).setCell (.inl (.inl rfl)) _
 case done =>
  rintro D W hD ⟨fp,fz,hfree,hmiss,h9,hlw,h8,hch⟩ hK
  obtain ⟨s0,s1,s2,s3,s4,s5,s6⟩:=jH h9;obtain ⟨r0,r1,r2,r3,r4,r5,r6⟩:=jH h8;have sf:=λj=>h9.frozen j;have rf:=λj=>h8.frozen j;have zr:=h8.lt;have zs:=h9.lt;have K8:=aa h8;have KF:=aa hfree;have KM:=aa hmiss;have KL:=aa hlw;have KC:=aa hch;have TR:=aa hK;have hzD:b0+8<=D:=by have:=hz0.out;omega
  have nZ:∀b,b0<=b->lp≠some b:=λb hb e=>by have:=(HLP.out b e).2.2.1;have:=HB0.out;omega
  clear hfree hmiss h9 hlw h8 hch hK;go_wp2;refine aJ (λWf hWf=>?_);have hR:af Wf (b0+1+1+1+1) 100 (dO B key h none (-1) fp fz):=by rw [hWf];exact ((((((K8.out.set 0 _).set 1 _).set 2 _).set 3 _).set 4 _).set 5 _).set 6 _
  have hc:ah (λb=>b=b0+1+1+1+1) W Wf:=by rw [hWf];exact (((((((ah.refl _ _).set1 _ _).set1 _ _).set1 _ _).set1 _ _).set1 _ _).set1 _ _).set1 _ _
  have hD2:Wf.heap[D]?=some (.deferred (some [])):=(hc.block D (Array.getElem?_eq_some_iff.1 TR.out).1 (by omega)).trans TR.out;refine Bu (v := .agg (dO B key h none (-1) fp fz)) hD2 (pE rfl rfl Tryz.underlying100 rfl (af.putObj hR (by omega) _) (Tryz.sizeOf100 _)) ⟨n,none,-1,fp,fz,rfl,Ry HU.out hn.1 KF.out KM.out,?_,?_⟩ _ (.inl rfl)
  . exact (KL.out.aA hc (λM' e e2=>nZ M' (by omega) e)).aA (ah.qF (X:=λb=>b0<=b) (gP (m:=b0) _ (by omega) hD2) (λk hk=>hk)) (λM' e e2=>nZ M' e2 e)
  . exact (ah.of_below YB.out).trans' (((KC.out.trans (hc.mono (λi _ e => .inr (.inl e)))).mono (Y:=λb=>lp=some b\/b0<=b) (λi _ e=>by rcases e with e|e|e;exact .inl e;exact .inr (by omega);exact .inr (by omega))).trans' (Y:=λb=>b0<=b) (ah.qF (gP (m:=b0) _ (by omega) hD2) (λk hk=>hk)) (λi _ e => .inr e)) (λi hi e=>by
     have:=HB0.out;rcases e with e|e
     . exact e
     . omega)
 case stop =>
  rintro D c W hD ⟨p,ap,az,fp,fz,rfl,hSR,h8,hlw,hch⟩ hK
  have hzD:b0+8<=D:=by have:=hz0.out;omega
  have nZ:∀b,b0<=b->lp≠some b:=λb hb e=>by have:=(HLP.out b e).2.2.1;have:=HB0.out;omega
  have K8:=aa h8;have KR:=aa hSR;have KL:=aa hlw;have KC:=aa hch;have TR:=aa hK;clear hlw h8 hch hK hSR
  gi_wp2
  refine Bu (v := .agg (dO B key h ap az fp fz)) TR.out (pE rfl rfl Tryz.underlying100 rfl (af.putObj K8.out (by omega) _) (Tryz.sizeOf100 _)) ⟨p,ap,az,fp,fz,rfl,KR.out,?_,?_⟩ _ (.inl rfl)
  . exact KL.out.aA (ah.qF (X:=λb=>b0<=b) (gP (m:=b0) _ (by omega) TR.out) (λk hk=>hk)) (λM' e e2=>nZ M' e2 e)
  . exact (ah.of_below YB.out).trans' ((KC.out.mono (Y:=λb=>lp=some b\/b0<=b) (λi _ e=>by rcases e with e|e|e;exact .inl e;exact .inr (by omega);exact .inr (by omega))).trans' (Y:=λb=>b0<=b) (ah.qF (gP (m:=b0) _ (by omega) TR.out) (λk hk=>hk)) (λi _ e => .inr e)) (λi hi e=>by
     have:=HB0.out;rcases e with e|e
     . exact e
     . omega)
end Go.Proofs.YtolhmibejhldkaaGreatDoor
namespace Go.Proofs.YtolhmibejhldkaaGreatDoor
open Go.RowKit Go.Proofs
structure ae where
 n:Nat
 M:Nat->Nat
 S:Nat->Nat->ai
 lv:Int
 tb:Int
def upd {α:Type} (f:Nat->α) (i:Nat) (x:α):Nat->α:=λj=>if j=i then x else f j
theorem upd_same {α:Type} (f:Nat->α) (i:Nat) (x:α):upd f i x i=x:=if_pos rfl
theorem ay {α:Type} (f:Nat->α) {i j:Nat} (x:α) (h:j≠i):upd f i x j=f j:=if_neg h
theorem Aw {α:Type} (f:Nat->α) (i:Nat):upd f i (f i)=f:=by
 funext j;unfold upd;split
 . rename_i e;rw [e]
 . rfl
def kU (f:Nat->Bool):Nat->Nat->Nat
 | 0,i=>i
 | k+1,i=>if f i then i+1 else kU f k (i+1)
theorem jk (f:Nat->Bool):∀k i,i<=kU f k i/\kU f k i<=i+k/\(0<k->i<kU f k i)/\(∀j,i<=j->j+1<kU f k i->f j=false)/\(kU f k i<i+k->f (kU f k i-1)=true)
 | 0,i=>⟨aL _,aL _,λh=>absurd h (by omega),λj h1 h2=>by unfold kU at h2;omega,λh=>by unfold kU at h;omega⟩
 | k+1,i=>by
  unfold kU;cases c:f i with
  | true=>simp only [if_true];exact ⟨by omega,by omega,λ_=>by omega,λj h1 h2=>by omega,λ_=>c⟩
  | false =>
   simp only [Bool.false_eq_true,if_false];obtain ⟨h1,h2,h3,h4,h5⟩:=jk f k (i+1);refine ⟨by omega,by omega,λ_=>by omega,λj h6 h7=>?_,λh=>h5 (by omega)⟩;by_cases e:j=i
   . subst e;exact c
   . exact h4 j (by omega) h7
theorem Eu {f:Nat->Bool} {n p:Nat} (h1:1<=p) (h2:p<=n) (h3:∀j,j+1<p->f j=false) (h4:p<n->f (p-1)=true):kU f n 0=p:=by
 obtain ⟨-,k2,k3,k4,k5⟩:=jk f n 0;have k3:=k3 (by omega);apply Classical.byContradiction
 intro hne;rcases Nat.lt_or_gt_of_ne hne with h|h
 . have a:=k5 (by omega);have b:=h3 (kU f n 0-1) (by omega);rw [b] at a;cases a
 . have a:=h4 (by omega);have b:=k4 (p-1) (by omega) (by omega);rw [b] at a;cases a
def ja (f:Nat->Int):Nat->Option Nat
 | 0=>none
 | p+1=>match ja f p with
  | some j=>some j
  | none=>if 0<=f p then some p else none
theorem iF {f:Nat->Int}:∀ {p j:Nat},ja f p=some j->j<p/\0<=f j/\∀i,i<j->f i<0
 | 0,j,h=>by cases h
 | p+1,j,h=>by
  unfold ja at h;cases c:ja f p with
  | some k =>
   rw [c] at h;simp only [Option.some.injEq] at h;subst h;obtain ⟨h1,h2,h3⟩:=iF c;exact ⟨by omega,h2,h3⟩
  | none =>
   rw [c] at h;simp only at h;split at h
   . rename_i c2
     cases h
     refine ⟨by omega,c2,λi hi=>?_⟩;exact jy c i hi
   . cases h
where jy {f:Nat->Int}:∀ {p:Nat},ja f p=none->∀i,i<p->f i<0
 | 0,_,i,hi=>by omega
 | p+1,h,i,hi=>by
  unfold ja at h;cases c:ja f p with
  | some k=>rw [c] at h;cases h
  | none =>
   rw [c] at h;simp only at h;split at h
   . cases h
   . rename_i c2
     by_cases e:i=p
     . subst e;omega
     . exact jy c i (by omega)
theorem jy {f:Nat->Int} {p:Nat} (h:ja f p=none):∀i,i<p->f i<0:=iF.jy h
theorem Ik {f:Nat->Int} {p j:Nat} (h1:j<p) (h2:0<=f j) (h3:∀i,i<j->f i<0):ja f p=some j:=by
 cases c:ja f p with
 | none=>have:=jy c j h1;omega
 | some k =>
  obtain ⟨k1,k2,k3⟩:=iF c;rcases Nat.lt_trichotomy k j with h|h|h
  . have:=h3 k h;omega
  . rw [h]
  . have:=k3 j h;omega
theorem Ol {f:Nat->Int} {p:Nat} (h:∀i,i<p->f i<0):ja f p=none:=by
 cases c:ja f p with
 | none=>rfl
 | some k=>obtain ⟨k1,k2,-⟩:=iF c;have:=h k k1;omega
def ae.hit (T:ae) (key:Int) (h g:Nat):Int:=eP (T.S g) key (aI (aU (T.M g) (h % 128)))
def ae.stop (T:ae) (key:Int) (h g:Nat):Bool:=decide (0<=T.hit key h g) || bR (T.M g)
def ae.wk (T:ae) (h j:Nat):Nat:=bE (h / 128) T.n j
def ae.looks (T:ae) (key:Int) (h:Nat):Nat:=kU (λj=>T.stop key h (T.wk h j)) T.n 0
def ae.bn (T:ae) (key:Int) (h:Nat):Nat:=T.wk h (T.looks key h-1)
def ae.iQ (T:ae) (key:Int) (h:Nat):Int:=T.hit key h (T.bn key h)
def ae.gU (T:ae) (key:Int) (h:Nat):Option Nat:=ja (λj=>dQ (T.M (T.wk h j))) (T.looks key h)
def ae.dM (T:ae) (key:Int) (h:Nat):Nat:=match T.gU key h with|none=>0|some j=>T.wk h j
def ae.jU (T:ae) (key:Int) (h:Nat):Int:=match T.gU key h with|none => -1|some j=>dQ (T.M (T.wk h j))
def ae.has (T:ae) (key:Int) (h:Nat):Bool:=decide (0<=T.iQ key h)
def ae.bA (T:ae) (key:Int) (h:Nat):ai:=if 0<=T.iQ key h then T.S (T.bn key h) (T.iQ key h).toNat else ai.zero
def ae.left (T:ae):Int:=7*(T.n:Int)-T.lv-T.tb
def ae.pq (T:ae) (g k:Nat) (v:Int):ae:={ T with S:=upd T.S g (eY (T.S g) k { T.S g k with val:=v})}
def ae.era (T:ae) (g k:Nat):ae:={ T with M:=upd T.M g (fB (T.M g) k (dB (T.M g))),S:=upd T.S g (eY (T.S g) k ai.zero),lv:=T.lv-1,tb:=if bR (T.M g)=true then T.tb else T.tb+1}
def ae.ins (T:ae) (g k:Nat) (e:ai) (h:Nat):ae:={ T with M:=upd T.M g (fB (T.M g) k (h % 128)),S:=upd T.S g (eY (T.S g) k e),lv:=T.lv+1,tb:=if ln (T.M g) k=254 then T.tb-1 else T.tb}
def ae.room (T:ae) (key:Int) (h:Nat):Bool:=decide (1<=T.left) && decide (0<=T.jU key h)
def ae.aR (T:ae) (key v:Int) (h:Nat):ae :=
 if T.has key h=true then T.pq (T.bn key h) (T.iQ key h).toNat v
 else if T.room key h=true then T.ins (T.dM key h) (T.jU key h).toNat ⟨key,v,h⟩ h else T
def ae.bB (T:ae) (key:Int) (h:Nat):Bool := !T.has key h && T.room key h
def ae.bN (T:ae) (key:Int) (h:Nat):Nat:=if T.has key h=true\/T.room key h=true then 0 else 2
def ae.eB (T:ae) (key:Int) (h:Nat):ae:=if T.has key h=true then T.era (T.bn key h) (T.iQ key h).toNat else T
def gp (f:Nat->Nat):Nat->Nat
 | 0=>0
 | n+1=>gp f n+f n
theorem rT {f g:Nat->Nat}:∀ {n:Nat},(∀i,i<n->f i=g i)->gp f n=gp g n
 | 0,_=>rfl
 | n+1,h=>by unfold gp;rw [rT (n:=n) λi hi=>h i (by omega),h n (by omega)]
theorem AO {f:Nat->Nat} {c:Nat}:∀ {n:Nat},(∀i,i<n->f i<=c)->gp f n<=c*n
 | 0,_=>aL _
 | n+1,h=>by unfold gp;have:=AO (n:=n) λi hi=>h i (by omega);have:=h n (by omega);rw [Nat.mul_succ];omega
theorem nK {f g:Nat->Nat} {i:Nat}:∀ {n:Nat},i<n->(∀j,j≠i->g j=f j)->gp g n+f i=gp f n+g i
 | 0,h,_=>by omega
 | n+1,h,hg=>by
  unfold gp;by_cases e:i=n
  . subst e;rw [rT (n:=i) λj hj=>hg j (by omega)];omega
  . have:=nK (n:=n) (by omega) hg;rw [hg n (by omega)];omega
theorem BO {f:Nat->Nat}:∀ {n:Nat},(∀i,i<n->f i=0)->gp f n=0
 | 0,_=>rfl
 | n+1,h=>by unfold gp;rw [BO λi hi=>h i (by omega),h n (by omega)]
theorem Kl (f g:Nat->Nat):∀n,gp (λi=>f i+g i) n=gp f n+gp g n
 | 0=>rfl
 | n+1=>by unfold gp;rw [Kl f g n];omega
def ae.cnt (T:ae) (k:Nat):Nat:=gp (λi=>aV (T.M i) k) T.n
structure bq (T:ae):Prop where
 right:aN (T.n:Int)=true
 good:∀i,i<T.n->jC (T.M i) (T.S i)
 lv:T.lv=(T.cnt 3:Int)
 tb:T.tb=(T.cnt 2:Int)
theorem nM (m k q i:Nat) (hq:q<256) (hi:i<8):aU (fB m k q) 254 i=if i=k then decide (q=254) else aU m 254 i:=by
 rw [Bool.eq_iff_iff];have e1:∀ (m i:Nat),aU m 254 i=true↔ln m i=254:=λm i=>by unfold aU;simp
 rw [e1,jJ m k q i hq hi];by_cases e:i=k
 . rw [if_pos e,if_pos e];simp
 . rw [if_neg e,if_neg e,e1]
theorem Ck (m i:Nat):aU m 254 i=true↔ln m i=254:=by unfold aU;simp
theorem Qe {m k:Nat} (q:Nat) (hk:k<8) (hq:q<128) (h:cK m (k:Int) false=0):aV (fB m k q) 3=aV m 3+1:=by
 rw [<-mr,<-mr];exact RJ q hk hq h
theorem Mo {m k:Nat} (hk:k<8) (h:cK m (k:Int) true=0):aV m 3=aV (fB m k (dB m)) 3+1:=by
 rw [<-mr,<-mr];exact Md hk h
theorem De {m k q:Nat} (hk:k<8) (hq:q<256) (h:ln m k=254↔q=254):aV (fB m k q) 2=aV m 2:=by
 rw [<-gY,<-gY]
 congr 1
 refine lh λi hi=>?_;rw [nM m k q i hq hi];by_cases e:i=k
 . subst e;rw [if_pos rfl,Bool.eq_iff_iff,Ck,decide_eq_true_iff];exact h.symm
 . rw [if_neg e]
theorem Qg {m k q:Nat} (hk:k<8) (hq:q<256) (h:ln m k≠254) (h2:q=254):aV (fB m k q) 2=aV m 2+1:=by
 rw [<-gY,<-gY];refine qK hk ?_ ?_ λi hi h8=>?_
 . cases c:aU m 254 k with
   | false=>rfl
   | true=>exact absurd ((Ck m k).1 c) h
 . rw [nM m k q k hq hk,if_pos rfl];simpa using h2
 . rw [nM m k q i hq h8,if_neg hi]
theorem Qf {m k q:Nat} (hk:k<8) (hq:q<256) (h:ln m k=254) (h2:q≠254):aV m 2=aV (fB m k q) 2+1:=by
 rw [<-gY,<-gY];refine qK hk ?_ ((Ck m k).2 h) λi hi h8=>?_
 . rw [nM m k q k hq hk,if_pos rfl];simpa using h2
 . rw [nM m k q i hq h8,if_neg hi]
theorem bq.bounds {T:ae} (h:bq T):T.n<=64/\1<=T.n/\0<=T.lv/\T.lv<=512/\0<=T.tb/\T.tb<=512:=by
 have hn:=dZ h.right;have h3:T.cnt 3<=8*T.n:=AO λi _=>qP _ _;have h2:T.cnt 2<=8*T.n:=AO λi _=>qP _ _;have:=h.lv;have:=h.tb;omega
theorem bq.Le {T:ae} (h:bq T):∀i,i<T.n->T.M i<18446744073709551616:=λi hi=>(h.good i hi).1
theorem bq.pq {T:ae} (h:bq T) {g k:Nat} (hg:g<T.n) (v:Int):bq (T.pq g k v) :=
 ⟨h.right,λi hi=>by
  show jC (T.M i) (upd T.S g _ i)
  by_cases e:i=g
  . subst e;rw [upd_same];exact (h.good i hg).aia k v
  . rw [ay _ _ e];exact h.good i hi,h.lv,h.tb⟩
theorem bq.ins {T:ae} (hT:bq T) {g k h:Nat} (hg:g<T.n) (hk:k<8) (hf:cK (T.M g) (k:Int) false=0) (x0 x1:Int) (hh:h<18446744073709551616):bq (T.ins g k ⟨x0,x1,h⟩ h):=by
 have hq:h % 128<128:=Nat.mod_lt _ (by decide);refine ⟨hT.right,λi hi=>?_,?_,?_⟩
 . show jC (upd T.M g _ i) (upd T.S g _ i)
   by_cases e:i=g
   . subst e;rw [upd_same,upd_same];exact (hT.good i hg).put k h x0 x1 hh
   . rw [ay _ _ e,ay _ _ e];exact hT.good i hi
 . show T.lv+1=((gp (λi=>aV (upd T.M g (fB (T.M g) k (h % 128)) i) 3) T.n:Nat):Int)
   have:=nK (f:=λi=>aV (T.M i) 3) (g:=λi=>aV (upd T.M g (fB (T.M g) k (h % 128)) i) 3) hg (λj hj=>by simp only [ay _ _ hj]);simp only [upd_same] at this;rw [Qe _ hk hq hf] at this;have h1:=hT.lv;unfold ae.cnt at h1;omega
 . show (if ln (T.M g) k=254 then T.tb-1 else T.tb)=((gp (λi=>aV (upd T.M g (fB (T.M g) k (h % 128)) i) 2) T.n:Nat):Int)
   have:=nK (f:=λi=>aV (T.M i) 2) (g:=λi=>aV (upd T.M g (fB (T.M g) k (h % 128)) i) 2) hg (λj hj=>by simp only [ay _ _ hj]);simp only [upd_same] at this;have h1:=hT.tb;unfold ae.cnt at h1;by_cases c:ln (T.M g) k=254
   . rw [if_pos c];have:=Qf (q:=h % 128) hk (by omega) c (by omega);omega
   . rw [if_neg c];have:=De (m:=T.M g) (q:=h % 128) hk (by omega) ⟨λe=>absurd e c,λe=>by omega⟩;omega
theorem bq.era {T:ae} (hT:bq T) {g k:Nat} (hg:g<T.n) (hk:k<8) (hf:cK (T.M g) (k:Int) true=0):bq (T.era g k):=by
 have hfull:=(eO _ _).1 (mo hk hf);refine ⟨hT.right,λi hi=>?_,?_,?_⟩
 . show jC (upd T.M g _ i) (upd T.S g _ i)
   by_cases e:i=g
   . subst e;rw [upd_same,upd_same];exact (hT.good i hg).erase k
   . rw [ay _ _ e,ay _ _ e];exact hT.good i hi
 . show T.lv-1=((gp (λi=>aV (upd T.M g (fB (T.M g) k (dB (T.M g))) i) 3) T.n:Nat):Int)
   have:=nK (f:=λi=>aV (T.M i) 3) (g:=λi=>aV (upd T.M g (fB (T.M g) k (dB (T.M g))) i) 3) hg (λj hj=>by simp only [ay _ _ hj]);simp only [upd_same] at this;rw [Mo hk hf] at this;have h1:=hT.lv;unfold ae.cnt at h1;omega
 . show (if bR (T.M g)=true then T.tb else T.tb+1)=((gp (λi=>aV (upd T.M g (fB (T.M g) k (dB (T.M g))) i) 2) T.n:Nat):Int)
   have:=nK (f:=λi=>aV (T.M i) 2) (g:=λi=>aV (upd T.M g (fB (T.M g) k (dB (T.M g))) i) 2) hg (λj hj=>by simp only [ay _ _ hj]);simp only [upd_same] at this;have h1:=hT.tb;unfold ae.cnt at h1;by_cases c:bR (T.M g)=true
   . rw [if_pos c];have:=De (m:=T.M g) (q:=dB (T.M g)) hk (kK _) (by unfold dB;rw [if_pos c];omega);omega
   . rw [if_neg c];have:=Qg (m:=T.M g) (q:=dB (T.M g)) hk (kK _) (by omega) (by unfold dB;rw [if_neg c]);omega
theorem bq.at' {T:ae} (hT:bq T) {key:Int} {h:Nat} (hh:T.has key h=true) :
 ∃k:Nat,T.iQ key h=(k:Int)/\k<8/\T.bn key h<T.n/\cK (T.M (T.bn key h)) (k:Int) true=0/\(T.S (T.bn key h) k).key=key/\ln (T.M (T.bn key h)) k=h % 128:=by
 have hb:=hT.bounds;have h0:0<=T.iQ key h:=by unfold ae.has at hh;simpa using hh
 have hg:T.bn key h<T.n:=nI _ _ _ (by omega);rcases Fg (T.S (T.bn key h)) key (aU (T.M (T.bn key h)) (h % 128)) with ⟨h1,-⟩ | ⟨k,h1,h2,h3,h4,-⟩
 . unfold ae.iQ ae.hit at h0;omega
 . refine ⟨k,h1,h2,hg,?_,h4,?_⟩
   . rw [jf _ k true h2,if_pos];have:ln (T.M (T.bn key h)) k=h % 128:=by unfold aU at h3;simpa using h3
     simp;omega
   . unfold aU at h3;simpa using h3
theorem LX (m:Nat):dQ m = -1\/∃k:Nat,dQ m=(k:Int)/\k<8/\cK m (k:Int) false=0:=by
 rw [Ci];rcases rW (λi => !bC m i) with ⟨h1,h2⟩ | ⟨k,h1,h2,h3,h4⟩
 . exact .inl h1
 . refine .inr ⟨k,h1,h2,?_⟩;rw [jf _ k false h2,if_pos];have:bC m k=false:=by simpa using h3
   rw [mi] at this;simpa using this
theorem bq.free' {T:ae} (hT:bq T) {key:Int} {h:Nat} (hh:0<=T.jU key h) :
 ∃k:Nat,T.jU key h=(k:Int)/\k<8/\T.dM key h<T.n/\cK (T.M (T.dM key h)) (k:Int) false=0:=by
 have hb:=hT.bounds;unfold ae.jU at hh ⊢;unfold ae.dM;cases c:T.gU key h with
 | none=>rw [c] at hh;simp at hh
 | some j =>
  rw [c] at hh;simp only at hh ⊢;rcases LX (T.M (T.wk h j)) with e | ⟨k,e1,e2,e3⟩
  . omega
  . exact ⟨k,e1,e2,nI _ _ _ (by omega),e3⟩
theorem bq.aR {T:ae} (hT:bq T) {key:Int} {h:Nat} (v:Int) (hh:h<18446744073709551616):bq (T.aR key v h):=by
 unfold ae.aR;split
 . rename_i c;obtain ⟨k,h1,h2,h3,-⟩:=hT.at' c;exact hT.pq h3 v
 . split
   . rename_i c
     unfold ae.room at c;simp only [Bool.and_eq_true,decide_eq_true_eq] at c;obtain ⟨k,h1,h2,h3,h4⟩:=hT.free' c.2;rw [h1,Int.toNat_natCast];exact hT.ins h3 h2 h4 key v hh
   . exact hT
theorem bq.eB {T:ae} (hT:bq T) {key:Int} {h:Nat}:bq (T.eB key h):=by
 unfold ae.eB;split
 . rename_i c
   obtain ⟨k,h1,h2,h3,h4,-⟩:=hT.at' c;rw [h1,Int.toNat_natCast];exact hT.era h3 h2 h4
 . exact hT
def ae.new (n:Nat):ae:=⟨n,λ_=>rep 128,λ_ _=>ai.zero,0,0⟩
theorem bq.new {n:Nat} (h:aN (n:Int)=true):bq (ae.new n) :=
 ⟨h,λi hi=>jC.new,by
  show (0:Int)=((gp (λ_=>aV (rep 128) 3) n:Nat):Int)
  rw [BO λi _=>by decide];rfl,by
  show (0:Int)=((gp (λ_=>aV (rep 128) 2) n:Nat):Int)
  rw [BO λi _=>by decide];rfl⟩
theorem Uw (T:ae) (key v:Int) (h:Nat):(T.aR key v h).n=T.n:=by unfold ae.aR;split;rfl;split <;> rfl
def TS (w:World) (B Q:Nat) (T:ae):Prop:=TW w B Q T.n T.M T.S T.lv T.tb
theorem TS.later {w w':World} {B Q:Nat} {T:ae} (h:TS w B Q T) (hb:Below w.heap.size w w'):TS w' B Q T:=TW.later h hb
theorem TS.aA {X:Nat->Prop} {w w':World} {B Q:Nat} {T:ae} (h:TS w B Q T) (hc:ah X w w') (hB:¬X B) (hQ:¬X Q):TS w' B Q T:=TW.aA h hc hB hQ
def ae.mI (T:ae) (Q:Nat) (key:Int) (h:Nat):Option Addr:=if 0<=T.iQ key h then some ⟨Q,T.bn key h*25,none⟩ else none
theorem Gu.spec {Q:Nat} {T:ae} {key:Int} {h p:Nat} {ap:Option Addr} {az:Int} {fp:Option Addr} {fz:Int} (H:Gu Q T.n T.M T.S key h p ap az fp fz) :
 p=T.looks key h/\az=T.iQ key h/\ap=T.mI Q key h/\fz=T.jU key h/\(0<=fz->fp=some ⟨Q,T.dM key h*25,none⟩):=by
 obtain ⟨h1,h2,hF,hM,hE⟩:=H
 have hp:T.looks key h=p:=by
  unfold ae.looks;refine Eu h1 h2 (λj hj=>?_) (λhlt=>?_)
  . obtain ⟨a,b⟩:=hM j (by omega);show (decide (0<=T.hit key h (T.wk h j)) || bR (T.M (T.wk h j)))=false
    have a':T.hit key h (T.wk h j) = -1:=a;have b':bR (T.M (T.wk h j))=false:=b;rw [a',b'];rfl
  . show (decide (0<=T.hit key h (T.wk h (p-1))) || bR (T.M (T.wk h (p-1))))=true
    rcases hE with ⟨-,-,-,e|e⟩ | ⟨e1,-,e2⟩
    . have e':bR (T.M (T.wk h (p-1)))=true:=e;rw [e'];simp
    . omega
    . have e':T.hit key h (T.wk h (p-1))=az:=e2;rw [e'];simp [e1]
 have hat:T.iQ key h=az:=by
  unfold ae.iQ ae.bn;rw [hp];rcases hE with ⟨e1,-,e2,-⟩ | ⟨-,-,e2⟩
  . rw [e1];exact e2
  . exact e2
 refine ⟨hp.symm,hat.symm,?_,?_,?_⟩
 . unfold ae.mI ae.bn;rw [hat,hp];rcases hE with ⟨e1,e2,-⟩ | ⟨e1,e2,-⟩
   . rw [if_neg (by omega)];exact e2
   . rw [if_pos e1];exact e2
 . unfold ae.jU ae.gU;rw [hp];rcases hF with ⟨e1,e2⟩ | ⟨j,e1,e2,e3,e4,e5⟩
   . rw [Ol (λi hi=>by have:dQ (T.M (T.wk h i)) = -1:=e2 i hi;omega)];exact e1
   . rw [Ik e1 (show 0<=dQ (T.M (T.wk h j)) by have:fz=dQ (T.M (T.wk h j)):=e3;omega) (λi hi=>by have:dQ (T.M (T.wk h i)) = -1:=e5 i hi;omega)];exact e3
 . intro hz;unfold ae.dM ae.gU;rw [hp];rcases hF with ⟨e1,e2⟩ | ⟨j,e1,e2,e3,e4,e5⟩
   . omega
   . rw [Ik e1 (show 0<=dQ (T.M (T.wk h j)) by have:fz=dQ (T.M (T.wk h j)):=e3;omega) (λi hi=>by have:dQ (T.M (T.wk h i)) = -1:=e5 i hi;omega)];exact e2
theorem qA (B Q:Nat) (T:ae) (hT:bq T) (key:Int) (h:Nat) (hh:h<18446744073709551616) (q:Option Addr) (lp:Option Nat) (hq:di q lp) (mt:aG) (x1 y1 z1:Int) (w:World) (hW:TS w B Q T) (hL:LW w lp mt)
 (hlp:∀b,lp=some b->b≠B/\b≠Q/\b<w.heap.size/\b≠16) (Oa:iB w) :
 Calls Tryz.prog 43 #[.pointer (some ⟨B,0,none⟩),.agg #[.pointer q,.int .i64 x1,.int .i64 y1,.int .i64 z1],.int .u64 key,.int .u64 (h:Int)] w λe w' =>
  ∃fp,e = .returned (.agg (dO B key h (T.mI Q key h) (T.iQ key h) fp (T.jU key h)))/\(0<=T.jU key h->fp=some ⟨Q,T.dM key h*25,none⟩)/\LW w' lp (addN mt x1 y1 z1 (T.looks key h))/\ah (λb=>lp=some b) w w':=by
 refine (Um B Q T.n T.M T.S T.lv T.tb key h hh hT.right hT.Le q lp hq mt x1 y1 z1 w hW hL hlp Oa).mono ?_;rintro e w' ⟨p,ap,az,fp,fz,rfl,hR,hl,hc⟩
 obtain ⟨rfl,rfl,rfl,rfl,e5⟩:=hR.spec;exact ⟨fp,rfl,e5,hl,hc⟩
attribute [local go_sem] neq_nilG
theorem TW.QJ {w:World} {B Q n:Nat} {M:Nat->Nat} {S:Nat->Nat->ai} {lv tb:Int} (h:TW w B Q n M S lv tb) (x:Int):TW (w.setCell ⟨B,1,none⟩ (.int .i64 x)) B Q n M S x tb :=
 ⟨h.head.set 1 _,h.ne,λi hi=>(h.at' i hi).aA (X:=λb=>b=B) ((ah.refl _ _).set1 _ _) (λe=>h.ne e.symm),by simpa using h.lt⟩
theorem TW.acy {w:World} {B Q n:Nat} {M:Nat->Nat} {S:Nat->Nat->ai} {lv tb:Int} (h:TW w B Q n M S lv tb) (x:Int):TW (w.setCell ⟨B,2,none⟩ (.int .i64 x)) B Q n M S lv x :=
 ⟨h.head.set 2 _,h.ne,λi hi=>(h.at' i hi).aA (X:=λb=>b=B) ((ah.refl _ _).set1 _ _) (λe=>h.ne e.symm),by simpa using h.lt⟩
theorem TW.drew {w:World} {B Q n:Nat} {M:Nat->Nat} {S:Nat->Nat->ai} {lv tb:Int} (h:TW w B Q n M S lv tb):TW w.drew B Q n M S lv tb:=h.below (aM w.heap.size w).drew h.head.lt h.lt
theorem TW.alloc {w:World} {B Q n:Nat} {M:Nat->Nat} {S:Nat->Nat->ai} {lv tb:Int} (h:TW w B Q n M S lv tb) (o:Obj):TW (w.alloc o) B Q n M S lv tb:=h.later ((aM _ _).alloc (aL _) o)
theorem aeg (G o m k:Nat) (s:Nat->ai) (hm:m<18446744073709551616) (hk:k<8) (hf:cK m (k:Int) true=0) (E:Nat->Addr) (w:World) (h:GW w G o m s) (he:EC w E [1,5]) :
 Calls Tryz.prog 98 #[.agg #[.pointer (some ⟨G,o,none⟩)],.int .i64 (k:Int)] w λe w'=>e = .returned (.tuple #[.agg #[.int .u64 (s k).key,.int .u64 (s k).val,.int .u64 (s k).hash],.bool true])/\Below w.heap.size w w':=by
 refine (QS G o m s hm k E w h he).mono ?_;rintro e w' ⟨rfl,hb⟩
 refine ⟨?_,hb⟩;unfold atS;rw [hf,if_pos rfl,Int.toNat_natCast];rfl
theorem Uq {w:World} {C:Nat} {T:TypeId} {a b c x y z:Value} (h:af w C T #[a,b,c]) :
 (((w.setCell ⟨C,0,none⟩ x).setCell ⟨C,1,none⟩ y).setCell ⟨C,2,none⟩ z).cell? ⟨C,0,none⟩=some x/\(((w.setCell ⟨C,0,none⟩ x).setCell ⟨C,1,none⟩ y).setCell ⟨C,2,none⟩ z).cell? ⟨C,1,none⟩=some y/\(((w.setCell ⟨C,0,none⟩ x).setCell ⟨C,1,none⟩ y).setCell ⟨C,2,none⟩ z).cell? ⟨C,2,none⟩=some z:=by
 have r:=((h.set 0 x).set 1 y).set 2 z;exact ⟨r.cell 0,r.cell 1,r.cell 2⟩
theorem qN (B Q:Nat) (T:ae) (hT:bq T) (key:Int) (h:Nat) (fp:Option Addr) (fz:Int) (E:Nat->Addr) (w:World) (hW:TS w B Q T) (he:EC w E [1,5]) :
 Calls Tryz.prog 44 #[.agg (dO B key h (T.mI Q key h) (T.iQ key h) fp fz)] w λe w' =>
  e = .returned (.tuple #[(T.bA key h).pg,.bool (T.has key h)])/\Below w.heap.size w w':=by
 unfold dO ai.pg;by_cases h0:T.has key h=true
 . obtain ⟨k,e1,hk,hg,hf,-⟩:=hT.at' h0;have AT:=aa (λw' (hb:Below w.heap.size w w')=>aeg Q (T.bn key h*25) (T.M (T.bn key h)) k (T.S (T.bn key h)) (hT.Le _ hg) hk hf E w' ((hW.at' _ hg).below hb hW.lt) (he.below hb));have hx:T.bA key h=T.S (T.bn key h) k:=by unfold ae.bA;rw [e1,if_pos (by omega),Int.toNat_natCast]
   have hp:T.mI Q key h=some ⟨Q,T.bn key h*25,none⟩:=by unfold ae.mI;rw [e1,if_pos (by omega)]
   have hd:decide ((k:Int)<0)=false:=by simp
   rw [hx,hp,h0,e1];generalize (T.S (T.bn key h) k).key=x0 at *
   generalize (T.S (T.bn key h) k).val=x1 at *
   generalize (T.S (T.bn key h) k).hash=x2 at *
   generalize T.bn key h*25=o at *
   clear hx hp e1 h0 hW he hT hf hg hk;go_enter Tryz.func44,Tryz.ntmps44
   go_wp2_with (go_at_call 98;refine (AT.out _ (by go_grown)).mono ?_;rintro e w1 ⟨rfl,hb1⟩;have hB1:Below w.heap.size w w1:=(by (exact Below.trans (by go_grown) (hb1.mono (by simp <;> omega))));have eH:=λ(o:Nat)=>hb1.cell (p:=⟨w.heap.size+1,o,none⟩) (by ((simp <;> omega)));have eG:=λ(o:Nat)=>hb1.frozen (p:=⟨w.heap.size+1,o,none⟩) (by ((simp <;> omega)));have eF:w.heap.size+1<w1.heap.size:=bM (by ((simp <;> omega))) hb1.size)
   have Kb:af w1 (w.heap.size+1) 46 #[.int .u64 0,.int .u64 0,.int .u64 0]:=af.below (af.aF (by simp)) hb1 (by simp);obtain ⟨r0,r1,r2⟩:=Uq (x := .int .u64 x0) (y := .int .u64 x1) (z := .int .u64 x2) Kb;exact bodyPost_ret (v := .tuple #[.agg #[.int .u64 x0,.int .u64 x1,.int .u64 x2],.bool true]) (by simp [results,Tryz.results44,go_sem,r0,r1,r2]) rfl ⟨rfl,((hB1.setCell (p:=⟨w.heap.size+1,0,none⟩) (by simp) _).setCell (p:=⟨w.heap.size+1,1,none⟩) (by simp) _).setCell (p:=⟨w.heap.size+1,2,none⟩) (by simp) _⟩
 . have h0':T.has key h=false:=by simpa using h0
   have hz:¬0<=T.iQ key h:=by unfold ae.has at h0;simpa using h0
   have hx:T.bA key h=⟨0,0,0⟩:=by unfold ae.bA;rw [if_neg hz];rfl
   have hd:decide (T.iQ key h<0)=true:=by simp;omega
   rw [hx,h0'];generalize T.mI Q key h=ap at *
   generalize T.iQ key h=az at *
   clear hx h0' h0 hW he hT hz;go_enter Tryz.func44,Tryz.ntmps44
   go_wp2;have Kb:af _ (w.heap.size+1) 46 #[.int .u64 0,.int .u64 0,.int .u64 0]:=af.aF (W:=w.alloc (.cells #[.pointer (some ⟨B,0,none⟩),.int .u64 key,.int .u64 (h:Int),.pointer ap,.int .i64 az,.pointer fp,.int .i64 fz] 100)) (by simp);obtain ⟨r0,r1,r2⟩:=Uq (x := .int .u64 0) (y := .int .u64 0) (z := .int .u64 0) Kb;exact bodyPost_ret (v := .tuple #[.agg #[.int .u64 0,.int .u64 0,.int .u64 0],.bool false]) (by simp [results,Tryz.results44,go_sem,r0,r1,r2]) rfl ⟨rfl,by go_grown⟩
theorem CQ (B Q:Nat) (T:ae) (hT:bq T) (key:Int) (h:Nat) (fp:Option Addr) (fz v:Int) (E:Nat->Addr) (w:World) (hW:TS w B Q T) (he:EC w E [1,4,5]) :
 Calls Tryz.prog 45 #[.agg (dO B key h (T.mI Q key h) (T.iQ key h) fp fz),.int .u64 v] w λe w' =>
  e = .returned (jF E (if T.has key h=true then 0 else 4))/\TS w' B Q (if T.has key h=true then T.pq (T.bn key h) (T.iQ key h).toNat v else T)/\ah (λb=>b=B\/b=Q) w w':=by
 unfold dO;by_cases h0:T.has key h=true
 . obtain ⟨k,e1,hk,hg,hf,-⟩:=hT.at' h0;have ST:=aa (λw' (hb:Below w.heap.size w w')=>abU Q (T.bn key h*25) (T.M (T.bn key h)) k (T.S (T.bn key h)) v (hT.Le _ hg) hk hf E w' ((hW.at' _ hg).below hb hW.lt) ((he.sub (by decide)).below hb));have hp:T.mI Q key h=some ⟨Q,T.bn key h*25,none⟩:=by unfold ae.mI;rw [e1,if_pos (by omega)]
   have hd:decide ((k:Int)<0)=false:=by simp
   have HW:=aa hW;rw [hp,if_pos h0,if_pos h0,e1,fG,Int.toNat_natCast];clear hp e1 h0 hW he hT hf hk;generalize T.bn key h=g at *
   go_enter Tryz.func45,Tryz.ntmps45
   go_wp2_with (go_at_call 99;refine (ST.out _ (by go_grown)).mono ?_;rintro e w1 ⟨rfl,g1,c1⟩;have G1:=aa g1;have C1:=aa c1;clear g1 c1)
   go_ret;have hh:=(TW.later HW.out ((aM _ _).alloc (aL _) _)).group G1.out C1.out;refine ⟨rfl,?_,((ah.refl _ _).alloc _).trans (C1.out.aA.mono (λ_ _ e => .inr e))⟩;have e2:(λj=>if j=g then T.M g else T.M j)=T.M:=Aw T.M g;rw [e2] at hh;exact hh
 . have hz:¬0<=T.iQ key h:=by unfold ae.has at h0;simpa using h0
   have hd:decide (T.iQ key h<0)=true:=by simp;omega
   have e4:w.cell? ⟨5,0,none⟩=some (aO E 4):=he 4 (by decide);have l4:=qx _ _ e4;have HW:=aa hW;rw [if_neg h0,if_neg h0,jh E 4 (by decide)];unfold aO at *
   generalize T.mI Q key h=ap at *
   generalize T.iQ key h=az at *
   clear h0 hW he hT hz;go_enter Tryz.func45,Tryz.ntmps45
   go_wp2;go_ret;exact ⟨rfl,TW.alloc HW.out _,(ah.refl _ _).alloc _⟩
theorem Hl (B Q:Nat) (T:ae) (hT:bq T) (g k:Nat) (hg:g<T.n) (hk:k<8) (hf:cK (T.M g) (k:Int) true=0) (E:Nat->Addr) (w:World) (hW:TS w B Q T) (he:EC w E [1,5]) :
 Calls Tryz.prog 138 #[.pointer (some ⟨B,0,none⟩),.agg #[.pointer (some ⟨Q,g*25,none⟩),.int .i64 (k:Int)]] w λe w' =>
  e = .returned .nilIface/\TS w' B Q (T.era g k)/\ah (λb=>b=B\/b=Q) w w':=by
 have hbd:=hT.bounds;obtain ⟨-,-,b1,b2,b3,b4⟩:=hbd;have hm:=hT.Le _ hg;clear hT;obtain ⟨n,M,S,lv,tb⟩:=T;dsimp only at *
 have ER:=aa (λw' (hb:Below w.heap.size w w')=>SH Q (g*25) (M g) k (S g) hm hk hf E w' ((hW.at' _ hg).below hb hW.lt) (he.below hb));have HW:=aa hW;have hlB:=hW.head.lt;unfold ae.era TS;dsimp only;have e1:IntKind.i64.wrap (lv-1)=lv-1:=by rw [IntKind.wrap_i64];omega
 have e2:IntKind.i64.wrap (tb+1)=tb+1:=by rw [IntKind.wrap_i64];omega
 cases ho:bR (M g) with
 | true =>
  rw [ho] at ER;rw [if_pos rfl];clear hW he hf hk hm ho;go_enter Tryz.func138,Tryz.ntmps138
  go_wp2_with (go_at_call 173;refine (ER.out _ (by go_grown)).mono ?_;rintro e w1 ⟨rfl,g1,c1⟩;have C1:=aa c1;have W1:=aa ((TW.later HW.out ((aM _ _).alloc (aL _) _)).group g1 c1);have c1:=W1.out.head.cell 1;have c2:=W1.out.head.cell 2;have cf:=λj=>W1.out.head.frozen j;have zB:=W1.out.head.lt;clear g1)
  go_ret;exact ⟨rfl,W1.out.QJ _,(((ah.refl _ _).alloc _).trans (C1.out.aA.mono (λ_ _ e => .inr e))).setCell (.inl (.inl rfl)) _⟩
 | false =>
  rw [ho] at ER;rw [if_neg (by decide)];clear hW he hf hk hm ho;go_enter Tryz.func138,Tryz.ntmps138
  go_wp2_with (go_at_call 173;refine (ER.out _ (by go_grown)).mono ?_;rintro e w1 ⟨rfl,g1,c1⟩;have C1:=aa c1;have W1:=aa ((TW.later HW.out ((aM _ _).alloc (aL _) _)).group g1 c1);have c1:=W1.out.head.cell 1;have c2:=W1.out.head.cell 2;have cf:=λj=>W1.out.head.frozen j;have zB:=W1.out.head.lt;clear g1)
  go_ret;exact ⟨rfl,(W1.out.QJ _).acy _,((((ah.refl _ _).alloc _).trans (C1.out.aA.mono (λ_ _ e => .inr e))).setCell (.inl (.inl rfl)) _).setCell (.inl (.inl rfl)) _⟩
theorem Eb (B Q:Nat) (T:ae) (hT:bq T) (key:Int) (h:Nat) (fp:Option Addr) (fz:Int) (E:Nat->Addr) (w:World) (hW:TS w B Q T) (he:EC w E [1,4,5]) :
 Calls Tryz.prog 92 #[.agg (dO B key h (T.mI Q key h) (T.iQ key h) fp fz)] w λe w' =>
  e = .returned (jF E (if T.has key h=true then 0 else 4))/\TS w' B Q (T.eB key h)/\ah (λb=>b=B\/b=Q) w w':=by
 unfold dO ae.eB;by_cases h0:T.has key h=true
 . obtain ⟨k,e1,hk,hg,hf,-⟩:=hT.at' h0;have ST:=aa (λw' (hb:Below w.heap.size w w')=>Hl B Q T hT _ k hg hk hf E w' (hW.later hb) ((he.sub (by decide)).below hb));have hp:T.mI Q key h=some ⟨Q,T.bn key h*25,none⟩:=by unfold ae.mI;rw [e1,if_pos (by omega)]
   have hd:decide ((k:Int)<0)=false:=by simp
   rw [hp,if_pos h0,if_pos h0,e1,fG,Int.toNat_natCast];clear hp e1 h0 hW he hT hf hk;generalize T.bn key h=g at *
   go_enter Tryz.func92,Tryz.ntmps92
   go_wp2_with (go_at_call 138;refine (ST.out _ (by go_grown)).mono ?_;rintro e w1 ⟨rfl,g1,c1⟩;have G1:=aa g1;have C1:=aa c1;clear g1 c1)
   go_ret;exact ⟨rfl,G1.out,((ah.refl _ _).alloc _).trans C1.out⟩
 . have hz:¬0<=T.iQ key h:=by unfold ae.has at h0;simpa using h0
   have hd:decide (T.iQ key h<0)=true:=by simp;omega
   have e4:w.cell? ⟨5,0,none⟩=some (aO E 4):=he 4 (by decide);have l4:=qx _ _ e4;have HW:=aa hW;rw [if_neg h0,if_neg h0,jh E 4 (by decide)];unfold aO at *
   generalize T.mI Q key h=ap at *
   generalize T.iQ key h=az at *
   clear h0 hW he hT hz;go_enter Tryz.func92,Tryz.ntmps92
   go_wp2;go_ret;exact ⟨rfl,TW.alloc HW.out _,(ah.refl _ _).alloc _⟩
def ae.kg (T:ae) (key:Int) (h:Nat) (x0:Int) (h':Nat):Nat:=if T.has key h=true then 16 else if x0≠key\/h'≠h then 14 else if T.room key h=true then 0 else 2
def ae.Eg (T:ae) (key:Int) (h:Nat) (x0 x1:Int) (h':Nat):ae:=if T.kg key h x0 h'=0 then T.ins (T.dM key h) (T.jU key h).toNat ⟨key,x1,h⟩ h else T
theorem Hr (B Q:Nat) (T:ae) (hT:bq T) (key:Int) (h:Nat) (hh:h<18446744073709551616) (fp:Option Addr) (hfp:0<=T.jU key h->fp=some ⟨Q,T.dM key h*25,none⟩) (x0 x1:Int) (h':Nat) (E:Nat->Addr) (w:World) (hW:TS w B Q T) (he:EC w E [1,2,5,14,16]) :
 Calls Tryz.prog 46 #[.agg (dO B key h (T.mI Q key h) (T.iQ key h) fp (T.jU key h)),.agg #[.int .u64 x0,.int .u64 x1,.int .u64 (h':Int)]] w λe w' =>
  e = .returned (jF E (T.kg key h x0 h'))/\TS w' B Q (T.Eg key h x0 x1 h')/\ah (λb=>b=B\/b=Q) w w':=by
 have HW:=aa hW;have hbd:=hT.bounds;have LF:=aa (λw' (hb:Below w.heap.size w w')=>Hg B Q T.n T.lv T.tb (by omega) (by omega) (by omega) w' ((hW.later hb).head));have e2:w.cell? ⟨1,0,none⟩=some (aO E 2):=he 2 (by decide);have e14:w.cell? ⟨7,0,none⟩=some (aO E 14):=he 14 (by decide);have e16:w.cell? ⟨6,0,none⟩=some (aO E 16):=he 16 (by decide);have l2:=qx _ _ e2;have l14:=qx _ _ e14;have l16:=qx _ _ e16;unfold ae.Eg;by_cases h0:T.has key h=true
 . have hn:T.kg key h x0 h'=16:=by unfold ae.kg;rw [if_pos h0]
   have hd:decide (T.iQ key h>=0)=true:=by unfold ae.has at h0;simpa using h0
   rw [hn,if_neg (by decide),jh E 16 (by decide)];unfold dO aO at *
   generalize T.mI Q key h=ap at *
   generalize T.iQ key h=az at *
   generalize T.jU key h=fz at *
   clear hn h0 hW he hT hfp hbd;go_enter Tryz.func46,Tryz.ntmps46
   go_wp2;go_ret;exact ⟨rfl,(TW.alloc HW.out _).alloc _,((ah.refl _ _).alloc _).alloc _⟩
 have h0':T.has key h=false:=by simpa using h0
 have hd:decide (T.iQ key h>=0)=false:=by unfold ae.has at h0';simpa using h0'
 by_cases h1:x0≠key\/h'≠h
 . have hn:T.kg key h x0 h'=14:=by unfold ae.kg;rw [if_neg h0,if_pos h1]
   rw [hn,if_neg (by decide),jh E 14 (by decide)];unfold dO aO at *
   generalize T.mI Q key h=ap at *
   generalize T.iQ key h=az at *
   generalize T.jU key h=fz at *
   by_cases h2:x0=key
   . subst h2;have hk:(x0 != x0)=false:=by simp
     have hk2:((h':Int) != (h:Int))=true:=by simp;omega
     clear hn h0 hW he hT hfp hbd h1 h0';go_enter Tryz.func46,Tryz.ntmps46
     go_wp2;go_ret;exact ⟨rfl,(TW.alloc HW.out _).alloc _,((ah.refl _ _).alloc _).alloc _⟩
   . have hk:(x0 != key)=true:=by simpa using h2
     clear hn h0 hW he hT hfp hbd h1 h0' h2;go_enter Tryz.func46,Tryz.ntmps46
     go_wp2;go_ret;exact ⟨rfl,(TW.alloc HW.out _).alloc _,((ah.refl _ _).alloc _).alloc _⟩
 obtain ⟨rfl,rfl⟩:x0=key/\h'=h:=by omega
 have hk:(x0 != x0)=false:=by simp
 have hk2:((h':Int) != (h':Int))=false:=by simp
 by_cases h3:T.room x0 h'=true
 . have hn:T.kg x0 h' x0 h'=0:=by unfold ae.kg;rw [if_neg h0,if_neg h1,if_pos h3]
   rw [hn,if_pos rfl,fG];unfold ae.room at h3;simp only [Bool.and_eq_true,decide_eq_true_eq] at h3;obtain ⟨h3,h4⟩:=h3;obtain ⟨k,f1,f2,f3,f4⟩:=hT.free' h4;obtain rfl:=hfp h4;have hm:=hT.Le _ f3;rw [f1,Int.toNat_natCast];have hl:decide (T.left<1)=false:=by simp;omega
   have hz:decide ((k:Int)<0)=false:=by simp
   unfold ae.left at hl;generalize T.mI Q x0 h'=ap at *
   generalize T.iQ x0 h'=az at *
   generalize T.dM x0 h'=g at *
   clear hn h0 h1 h3 h4 hfp hT f1;obtain ⟨-,-,b1,b2,b3,b4⟩:=hbd;obtain ⟨n,M,S,lv,tb⟩:=T;dsimp only at *
   have PU:=aa (λw' (hb:Below w.heap.size w w')=>abX Q (g*25) (M g) k h' (S g) x0 x1 hm hh f2 f4 E w' ((hW.at' _ f3).below hb hW.lt) ((he.sub (by decide)).below hb));unfold ae.ins TS dO;dsimp only;have w1:IntKind.i64.wrap (lv+1)=lv+1:=by rw [IntKind.wrap_i64];omega
   have w2:IntKind.i64.wrap (tb-1)=tb-1:=by rw [IntKind.wrap_i64];omega
   have hlt:=hW.head.lt;by_cases ht:ln (M g) k=254
   . rw [show (ln (M g) k == 254)=true by simpa using ht] at PU;rw [if_pos ht];clear hW he hm f4 ht h0' e2 e14 e16 l2 l14 l16;go_enter Tryz.func46,Tryz.ntmps46
     go_wp2_with (first
      | (go_at_call 100;refine (LF.out _ (by go_grown)).mono ?_;rintro e w1 ⟨rfl,hb1⟩;have hB1:Below w.heap.size w w1:=(by (exact Below.trans (by go_grown) (hb1.mono (by simp <;> omega))));have dL:=λ(o:Nat)=>hb1.cell (p:=⟨w.heap.size,o,none⟩) (by ((simp <;> omega)));have dK:=λ(o:Nat)=>hb1.frozen (p:=⟨w.heap.size,o,none⟩) (by ((simp <;> omega)));have dh:w.heap.size<w1.heap.size:=bM (by ((simp <;> omega))) hb1.size;have eH:=λ(o:Nat)=>hb1.cell (p:=⟨w.heap.size+1,o,none⟩) (by ((simp <;> omega)));have eG:=λ(o:Nat)=>hb1.frozen (p:=⟨w.heap.size+1,o,none⟩) (by ((simp <;> omega)));have eF:w.heap.size+1<w1.heap.size:=bM (by ((simp <;> omega))) hb1.size)
      | (go_at_call 101;refine (PU.out _ hB1).mono ?_;rintro e w3 ⟨rfl,g1,c1⟩;have C1:=aa c1;have W1:=aa ((TW.later HW.out hB1).group g1 c1);have c1:=W1.out.head.cell 1;have c2:=W1.out.head.cell 2;have cf:=λj=>W1.out.head.frozen j;have zB:=W1.out.head.lt;have hcS:=λ(j:Nat)=>C1.out.aA.cell (p:=⟨w.heap.size,j,none⟩) dh (by have:=HW.out.lt;show ¬w.heap.size=Q;omega);clear g1))
     go_ret;exact ⟨rfl,(W1.out.QJ _).acy _,(((ah.of_below hB1).trans (C1.out.aA.mono (λ_ _ e => .inr e))).setCell (.inl (.inl rfl)) _).setCell (.inl (.inl rfl)) _⟩
   . rw [show (ln (M g) k == 254)=false by simpa using ht] at PU;rw [if_neg ht];clear hW he hm f4 ht h0' e2 e14 e16 l2 l14 l16;go_enter Tryz.func46,Tryz.ntmps46
     go_wp2_with (first
      | (go_at_call 100;refine (LF.out _ (by go_grown)).mono ?_;rintro e w1 ⟨rfl,hb1⟩;have hB1:Below w.heap.size w w1:=(by (exact Below.trans (by go_grown) (hb1.mono (by simp <;> omega))));have dL:=λ(o:Nat)=>hb1.cell (p:=⟨w.heap.size,o,none⟩) (by ((simp <;> omega)));have dK:=λ(o:Nat)=>hb1.frozen (p:=⟨w.heap.size,o,none⟩) (by ((simp <;> omega)));have dh:w.heap.size<w1.heap.size:=bM (by ((simp <;> omega))) hb1.size;have eH:=λ(o:Nat)=>hb1.cell (p:=⟨w.heap.size+1,o,none⟩) (by ((simp <;> omega)));have eG:=λ(o:Nat)=>hb1.frozen (p:=⟨w.heap.size+1,o,none⟩) (by ((simp <;> omega)));have eF:w.heap.size+1<w1.heap.size:=bM (by ((simp <;> omega))) hb1.size)
      | (go_at_call 101;refine (PU.out _ hB1).mono ?_;rintro e w3 ⟨rfl,g1,c1⟩;have C1:=aa c1;have W1:=aa ((TW.later HW.out hB1).group g1 c1);have c1:=W1.out.head.cell 1;have c2:=W1.out.head.cell 2;have cf:=λj=>W1.out.head.frozen j;have zB:=W1.out.head.lt;have hcS:=λ(j:Nat)=>C1.out.aA.cell (p:=⟨w.heap.size,j,none⟩) dh (by have:=HW.out.lt;show ¬w.heap.size=Q;omega);clear g1))
     go_ret;exact ⟨rfl,W1.out.QJ _,((ah.of_below hB1).trans (C1.out.aA.mono (λ_ _ e => .inr e))).setCell (.inl (.inl rfl)) _⟩
 . have hn:T.kg x0 h' x0 h'=2:=by unfold ae.kg;rw [if_neg h0,if_neg h1,if_neg h3]
   rw [hn,if_neg (by decide),jh E 2 (by decide)];unfold ae.room at h3;unfold dO aO ae.left at *
   generalize T.mI Q x0 h'=ap at *
   generalize T.iQ x0 h'=az at *
   generalize T.jU x0 h'=fz at *
   by_cases h5:1<=7*(T.n:Int)-T.lv-T.tb
   . have hl:decide (7*(T.n:Int)-T.lv-T.tb<1)=false:=by simp;omega
     have hz:decide (fz<0)=true:=by simp at h3 ⊢;omega
     clear hn h0 h1 hW he hT hfp h0' h3 h5;generalize 7*(T.n:Int)-T.lv-T.tb=lf at *
     go_enter Tryz.func46,Tryz.ntmps46
     go_wp2_with (go_at_call 100;refine (LF.out _ (by go_grown)).mono ?_;rintro e w1 ⟨rfl,hb1⟩;have hB1:Below w.heap.size w w1:=(by (exact Below.trans (by go_grown) (hb1.mono (by simp <;> omega))));have dL:=λ(o:Nat)=>hb1.cell (p:=⟨w.heap.size,o,none⟩) (by ((simp <;> omega)));have dK:=λ(o:Nat)=>hb1.frozen (p:=⟨w.heap.size,o,none⟩) (by ((simp <;> omega)));have dh:w.heap.size<w1.heap.size:=bM (by ((simp <;> omega))) hb1.size;have eH:=λ(o:Nat)=>hb1.cell (p:=⟨w.heap.size+1,o,none⟩) (by ((simp <;> omega)));have eG:=λ(o:Nat)=>hb1.frozen (p:=⟨w.heap.size+1,o,none⟩) (by ((simp <;> omega)));have eF:w.heap.size+1<w1.heap.size:=bM (by ((simp <;> omega))) hb1.size;have e2w:=(hB1.cell (p:=⟨1,0,none⟩) l2).trans e2;have l2w:=qx _ _ e2w)
     go_ret;exact ⟨rfl,TW.later HW.out hB1,ah.of_below hB1⟩
   . have hl:decide (7*(T.n:Int)-T.lv-T.tb<1)=true:=by simp;omega
     clear hn h0 h1 hW he hT hfp h0' h3 h5;generalize 7*(T.n:Int)-T.lv-T.tb=lf at *
     go_enter Tryz.func46,Tryz.ntmps46
     go_wp2_with (go_at_call 100;refine (LF.out _ (by go_grown)).mono ?_;rintro e w1 ⟨rfl,hb1⟩;have hB1:Below w.heap.size w w1:=(by (exact Below.trans (by go_grown) (hb1.mono (by simp <;> omega))));have dL:=λ(o:Nat)=>hb1.cell (p:=⟨w.heap.size,o,none⟩) (by ((simp <;> omega)));have dK:=λ(o:Nat)=>hb1.frozen (p:=⟨w.heap.size,o,none⟩) (by ((simp <;> omega)));have dh:w.heap.size<w1.heap.size:=bM (by ((simp <;> omega))) hb1.size;have eH:=λ(o:Nat)=>hb1.cell (p:=⟨w.heap.size+1,o,none⟩) (by ((simp <;> omega)));have eG:=λ(o:Nat)=>hb1.frozen (p:=⟨w.heap.size+1,o,none⟩) (by ((simp <;> omega)));have eF:w.heap.size+1<w1.heap.size:=bM (by ((simp <;> omega))) hb1.size;have e2w:=(hB1.cell (p:=⟨1,0,none⟩) l2).trans e2;have l2w:=qx _ _ e2w)
     go_ret;exact ⟨rfl,TW.later HW.out hB1,ah.of_below hB1⟩
end Go.Proofs.YtolhmibejhldkaaGreatDoor
namespace Go.Proofs.YtolhmibejhldkaaGreatDoor
open Go.RowKit Go.Proofs
attribute [local go_sem] neq_nilG eql_nilG
structure Low (w:World) (E:Nat->Addr) (n:Nat) (l:List Nat):Prop where
 e:EC w E l
 t:iB w
 le:∀k∈l,agO k<n
 lt:16<n
theorem Low.below {w w':World} {E:Nat->Addr} {n:Nat} {l:List Nat} (h:Low w E n l) (hb:Below w.heap.size w w'):Low w' E n l:=⟨h.e.below hb,h.t.below hb,h.le,h.lt⟩
theorem Low.aA {X:Nat->Prop} {w w':World} {E:Nat->Addr} {n:Nat} {l:List Nat} (h:Low w E n l) (hc:ah X w w') (hX:∀b,X b->n<=b):Low w' E n l :=
 ⟨λk hk=>(hc.cell (qx _ _ (h.e k hk)) (λhx=>by have a:=hX _ hx;have b:=h.le k hk;dsimp only at a;omega)).trans (h.e k hk),
  λj hj=>(hc.cell (qx _ _ (h.t j hj)) (λhx=>by have a:=hX _ hx;have b:=h.lt;dsimp only at a;omega)).trans (h.t j hj),h.le,h.lt⟩
theorem Low.sub {w:World} {E:Nat->Addr} {n:Nat} {l l':List Nat} (h:Low w E n l) (hs:∀k∈l',k∈l):Low w E n l':=⟨h.e.sub hs,h.t,λk hk=>h.le k (hs k hk),h.lt⟩
def jb (lp:Option Nat) (B Q n:Nat):Prop := ∀b,lp=some b->b≠B/\b≠Q/\n<=b
theorem jb.none (B Q n:Nat):jb none B Q n:=λb e=>by cases e
theorem jb.oq {lp:Option Nat} {B Q n:Nat} {w:World} {mt:aG} (h:jb lp B Q n) (hL:LW w lp mt) (hn:16<n):∀b,lp=some b->b≠B/\b≠Q/\b<w.heap.size/\b≠16:=λb e=>by
 obtain ⟨h1,h2,h3⟩:=h b e;exact ⟨h1,h2,(hL b e).lt,by omega⟩
theorem cells3 {w:World} {C:Nat} {T:TypeId} {a b c:Value} (h:af w C T #[a,b,c]):w.cell? ⟨C,0,none⟩=some a/\w.cell? ⟨C,1,none⟩=some b/\w.cell? ⟨C,2,none⟩=some c:=⟨h.cell 0,h.cell 1,h.cell 2⟩
theorem Rt (B Q N0:Nat) (T:ae) (hT:bq T) (key:Int) (h:Nat) (hh:h<18446744073709551616) (q:Option Addr) (lp:Option Nat) (hq:di q lp) (mt:aG) (x1 y1 z1:Int) (E:Nat->Addr) (w:World) (hW:TS w B Q T) (hL:LW w lp mt)
 (hlp:jb lp B Q N0) (hN:Low w E N0 [1,5]) (hBN:N0<=B) (hQN:N0<=Q) :
 Calls Tryz.prog 58 #[.pointer (some ⟨B,0,none⟩),.agg #[.pointer q,.int .i64 x1,.int .i64 y1,.int .i64 z1],.int .u64 key,.int .u64 (h:Int)] w λe w' =>
  e = .returned (.tuple #[(T.bA key h).pg,.bool (T.has key h)])/\LW w' lp (addN mt x1 y1 z1 (T.looks key h))/\ah (λb=>lp=some b) w w':=by
 have pO:=hlp.oq hL hN.lt;have NL:∀b,w.heap.size<=b->¬lp=some b:=λb hb e=>by have:=(pO b e).2.2.1;omega
 have nB:¬lp=some B:=λe=>(pO B e).1 rfl;have nQ:¬lp=some Q:=λe=>(pO Q e).2.1 rfl;have HW:=aa hW;have HL:=aa hL;have HN:=aa hN;have hBz:=hW.head.lt;have hQz:=hW.lt;have SK:=aa (λ(w':World) (hb:Below w.heap.size w w')=>qA B Q T hT key h hh q lp hq mt x1 y1 z1 w' (hW.later hb) (hL.later hb) (λb e=>by obtain ⟨a1,a2,a3,a4⟩:=pO b e;exact ⟨a1,a2,bM a3 hb.size,a4⟩) (hN.t.below hb));have EN:=aa (λ(fp:Option Addr) (w':World) hW' he'=>qN B Q T hT key h fp (T.jU key h) E w' hW' he');have LG:∀b,lp=some b->N0<=b:=λb e=>(hlp b e).2.2;clear hW hL hlp hN pO hT;unfold ai.pg at *
 generalize (T.bA key h).key=k0 at *
 generalize (T.bA key h).val=k1 at *
 generalize (T.bA key h).hash=k2 at *
 generalize T.has key h=hs at *
 go_enter Tryz.func58,Tryz.ntmps58
 go_wp2_with (first
  | (go_at_call 43;refine (SK.out _ (by go_grown)).mono ?_;rintro e w1 ⟨fp,rfl,hfp,hl1,hc1⟩;have Gx:=aa hl1;have ru:=aa hc1;have hz1:=hc1.size;have B1:=(af.alloc (af.new w 50 #[.pointer q,.int .i64 x1,.int .i64 y1,.int .i64 z1]) (.cells #[.int .u64 0,.int .u64 0,.int .u64 0] 46));have R1:af w1 (w.heap.size+1) 46 #[.int .u64 0,.int .u64 0,.int .u64 0]:=af.aA (af.aF (by simp)) hc1 (NL _ (by omega));have W1:=aa ((TW.alloc (TW.alloc HW.out (.cells #[.pointer q,.int .i64 x1,.int .i64 y1,.int .i64 z1] 50)) (.cells #[.int .u64 0,.int .u64 0,.int .u64 0] 46)).aA hc1 nB nQ);have N1:=aa ((HN.out.below (show Below w.heap.size w _ by go_grown)).aA hc1 LG);clear hfp hl1 hc1)
  | (go_at_call 44;refine (EN.out _ _ W1.out N1.out.e).mono ?_;rintro e w2 ⟨rfl,hb2⟩;have R2:=R1.below hb2 R1.lt;have hz2:=R2.lt;obtain ⟨q0,q1,q2⟩:=cells3 R2;have qf:=λj=>R2.frozen j))
 obtain ⟨r0,r1,r2⟩:=Uq (x := .int .u64 k0) (y := .int .u64 k1) (z := .int .u64 k2) R2;refine bodyPost_ret (v := .tuple #[.agg #[.int .u64 k0,.int .u64 k1,.int .u64 k2],.bool hs]) (by simp [results,Tryz.results58,go_sem,r0,r1,r2]) rfl ⟨rfl,?_,?_⟩
 . exact (Gx.out.later hb2).aA (X:=λb=>b=w.heap.size+1) ((((ah.refl _ _).set1 _ _).set1 _ _).set1 _ _) (λb e e2=>NL b (by omega) e)
 . exact ((((((ah.refl _ _).alloc _).alloc _).trans ru.out).au hb2).setCell (.inr (by simp)) _).setCell (.inr (by simp)) _ |>.setCell (.inr (by simp)) _
theorem Uf (B Q N0:Nat) (T:ae) (hT:bq T) (key v:Int) (h:Nat) (hh:h<18446744073709551616) (q:Option Addr) (lp:Option Nat) (hq:di q lp) (mt:aG) (x1 y1 z1:Int) (E:Nat->Addr) (w:World) (hW:TS w B Q T) (hL:LW w lp mt)
 (hlp:jb lp B Q N0) (hN:Low w E N0 [1,2,4,5,14,16]) (hBN:N0<=B) (hQN:N0<=Q) :
 Calls Tryz.prog 154 #[.pointer (some ⟨B,0,none⟩),.agg #[.pointer q,.int .i64 x1,.int .i64 y1,.int .i64 z1],.agg #[.int .u64 key,.int .u64 v,.int .u64 (h:Int)]] w λe w' =>
  e = .returned (.tuple #[.bool (T.bB key h),jF E (T.bN key h)])/\TS w' B Q (T.aR key v h)/\LW w' lp (addN mt x1 y1 z1 (T.looks key h))/\ah (λb=>lp=some b\/b=B\/b=Q) w w':=by
 have pO:=hlp.oq hL hN.lt;have NL:∀b,w.heap.size<=b->¬lp=some b:=λb hb e=>by have:=(pO b e).2.2.1;omega
 have nB:¬lp=some B:=λe=>(pO B e).1 rfl;have nQ:¬lp=some Q:=λe=>(pO Q e).2.1 rfl;have HW:=aa hW;have HL:=aa hL;have HN:=aa hN;have hBz:=hW.head.lt;have hQz:=hW.lt;have SK:=aa (λ(w':World) (hb:Below w.heap.size w w')=>qA B Q T hT key h hh q lp hq mt x1 y1 z1 w' (hW.later hb) (hL.later hb) (λb e=>by obtain ⟨a1,a2,a3,a4⟩:=pO b e;exact ⟨a1,a2,bM a3 hb.size,a4⟩) (hN.t.below hb));have EN:=aa (λ(fp:Option Addr) (w':World) hW' he'=>qN B Q T hT key h fp (T.jU key h) E w' hW' he');have RP:=aa (λ(fp:Option Addr) (w':World) hW' he'=>CQ B Q T hT key h fp (T.jU key h) v E w' hW' he');have PL:=aa (λ(fp:Option Addr) hfp (w':World) hW' he'=>Hr B Q T hT key h hh fp hfp key v h E w' hW' he');have LG:∀b,lp=some b->N0<=b:=λb e=>(hlp b e).2.2;have nLB:∀b,lp=some b->¬ (b=B\/b=Q):=λb e=>by have:=hlp b e;omega
 clear hW hL hlp hN pO hT;simp only [dO,ai.pg] at SK EN RP PL;unfold ae.bB ae.bN ae.aR;unfold ae.Eg ae.kg at PL;generalize (T.bA key h).key=k0 at *
 generalize (T.bA key h).val=k1 at *
 generalize (T.bA key h).hash=k2 at *
 generalize T.mI Q key h=ap at *
 obtain ⟨fz,hfz⟩:=dC (T.jU key h);rw [<-hfz] at SK EN RP PL;rw [<-hfz];obtain ⟨az,haz⟩:=dC (T.iQ key h);rw [<-haz] at SK EN RP PL;rw [<-haz];cases hs:T.has key h with
 | true =>
  simp only [hs,if_true,fG,true_or] at EN RP ⊢;clear PL hs hfz haz;go_enter Tryz.func154,Tryz.ntmps154
  go_wp2_with (first
   | (go_at_call 43;refine (SK.out _ (by go_grown)).mono ?_;rintro e w1 ⟨fp,rfl,hfp,hl1,hc1⟩;have HF:=aa hfp;have Gx:=aa hl1;have ru:=aa (((ah.of_below (show Below w.heap.size w _ by go_grown))).trans hc1);have hz1:=hc1.size;have W1:=aa ((TW.later HW.out (show Below w.heap.size w _ by go_grown)).aA hc1 nB nQ);have N1:=aa ((HN.out.below (show Below w.heap.size w _ by go_grown)).aA hc1 LG);have B5:af w1 (w.heap.size+1) 46 #[.int .u64 key,.int .u64 v,.int .u64 (h:Int)]:=af.aA (af.aF (by simp)) hc1 (NL _ (by omega));have b51:=B5.cell 1;have hz5:=B5.lt;clear hfp hl1 hc1)
   | (go_at_call 44;refine (EN.out _ _ (W1.out.alloc _) ((N1.out.below ((aM _ _).alloc (aL _) _)).sub (by decide)).e).mono ?_;rintro e w2 ⟨rfl,hb2⟩;have S2:=af.below (af.new w1 100 #[.pointer (some ⟨B,0,none⟩),.int .u64 key,.int .u64 (h:Int),.pointer ap,.int .i64 az,.pointer fp,.int .i64 fz]) hb2 (by simp);obtain ⟨s0,s1,s2,s3,s4,s5,s6⟩:=jH S2;have hzS:=S2.lt;have W2:=aa ((W1.out.alloc _).later hb2);have N2:=aa ((N1.out.below ((aM _ _).alloc (aL _) _)).below hb2);have L2:=aa ((Gx.out.later ((aM _ _).alloc (aL _) _)).later hb2);have C2:=aa ((ru.out.alloc (.cells #[.pointer (some ⟨B,0,none⟩),.int .u64 key,.int .u64 (h:Int),.pointer ap,.int .i64 az,.pointer fp,.int .i64 fz] 100)).au hb2);have Kc:=(B5.alloc _).below hb2 (by simp;omega);have aci:=Kc.cell 1;have abK:=Kc.lt)
   | (go_at_call 45;refine (RP.out _ _ (W2.out.alloc _) ((N2.out.below ((aM _ _).alloc (aL _) _)).sub (by decide)).e).mono ?_;rintro e w3 ⟨rfl,hw3,hc3⟩))
  go_ret2;exact ⟨rfl,hw3,(L2.out.later ((aM _ _).alloc (aL _) _)).aA hc3 nLB,((C2.out.alloc _).mono (λ_ _ e => .inl e)).trans (hc3.mono (λ_ _ e => .inr e))⟩
 | false =>
  simp only [hs,Bool.false_eq_true,if_false,false_or,Bool.not_false,Bool.true_and,ne_eq,not_true_eq_false,or_self] at EN PL ⊢;cases hr:T.room key h with
  | true =>
   simp only [hr,if_true,fG] at PL ⊢;have HZ:=aa hfz;clear RP hs haz hr hfz;go_enter Tryz.func154,Tryz.ntmps154
   go_wp2_with (first
    | (go_at_call 43;refine (SK.out _ (by go_grown)).mono ?_;rintro e w1 ⟨fp,rfl,hfp,hl1,hc1⟩;have HF:=aa hfp;have Gx:=aa hl1;have ru:=aa (((ah.of_below (show Below w.heap.size w _ by go_grown))).trans hc1);have hz1:=hc1.size;have W1:=aa ((TW.later HW.out (show Below w.heap.size w _ by go_grown)).aA hc1 nB nQ);have N1:=aa ((HN.out.below (show Below w.heap.size w _ by go_grown)).aA hc1 LG);have B5:af w1 (w.heap.size+1) 46 #[.int .u64 key,.int .u64 v,.int .u64 (h:Int)]:=af.aA (af.aF (by simp)) hc1 (NL _ (by omega));obtain ⟨b50,b51,b52⟩:=cells3 B5;have hz5:=B5.lt;clear hfp hl1 hc1)
    | (go_at_call 44;refine (EN.out _ _ (W1.out.alloc _) ((N1.out.below ((aM _ _).alloc (aL _) _)).sub (by decide)).e).mono ?_;rintro e w2 ⟨rfl,hb2⟩;have S2:=af.below (af.new w1 100 #[.pointer (some ⟨B,0,none⟩),.int .u64 key,.int .u64 (h:Int),.pointer ap,.int .i64 az,.pointer fp,.int .i64 fz]) hb2 (by simp);obtain ⟨s0,s1,s2,s3,s4,s5,s6⟩:=jH S2;have hzS:=S2.lt;have W2:=aa ((W1.out.alloc _).later hb2);have N2:=aa ((N1.out.below ((aM _ _).alloc (aL _) _)).below hb2);have L2:=aa ((Gx.out.later ((aM _ _).alloc (aL _) _)).later hb2);have C2:=aa ((ru.out.alloc (.cells #[.pointer (some ⟨B,0,none⟩),.int .u64 key,.int .u64 (h:Int),.pointer ap,.int .i64 az,.pointer fp,.int .i64 fz] 100)).au hb2);have Kc:=(B5.alloc _).below hb2 (by simp;omega);obtain ⟨ae3,aci,ae2⟩:=cells3 Kc;have abK:=Kc.lt)
    | (go_at_call 46;refine (PL.out _ (by have h1:=HF.out;rw [HZ.out] at h1;rw [HZ.out];exact h1) _ (W2.out.alloc _) ((N2.out.below ((aM _ _).alloc (aL _) _)).sub (by decide)).e).mono ?_;rintro e w3 ⟨rfl,hw3,hc3⟩;have H3:=aa hw3;have C3:=aa hc3;clear hw3 hc3))
   go_ret2;exact ⟨rfl,H3.out,(L2.out.later ((aM _ _).alloc (aL _) _)).aA C3.out nLB,((C2.out.alloc _).mono (λ_ _ e => .inl e)).trans (C3.out.mono (λ_ _ e => .inr e))⟩
  | false =>
   simp only [hr,Bool.false_eq_true,if_false] at PL ⊢;simp only [Fq E 2 (by decide),show ¬ ((2:Nat)=0) by decide,if_false] at PL ⊢;have HZ:=aa hfz;clear RP hs haz hr hfz;go_enter Tryz.func154,Tryz.ntmps154
   go_wp2_with (first
    | (go_at_call 43;refine (SK.out _ (by go_grown)).mono ?_;rintro e w1 ⟨fp,rfl,hfp,hl1,hc1⟩;have HF:=aa hfp;have Gx:=aa hl1;have ru:=aa (((ah.of_below (show Below w.heap.size w _ by go_grown))).trans hc1);have hz1:=hc1.size;have W1:=aa ((TW.later HW.out (show Below w.heap.size w _ by go_grown)).aA hc1 nB nQ);have N1:=aa ((HN.out.below (show Below w.heap.size w _ by go_grown)).aA hc1 LG);have B5:af w1 (w.heap.size+1) 46 #[.int .u64 key,.int .u64 v,.int .u64 (h:Int)]:=af.aA (af.aF (by simp)) hc1 (NL _ (by omega));obtain ⟨b50,b51,b52⟩:=cells3 B5;have hz5:=B5.lt;clear hfp hl1 hc1)
    | (go_at_call 44;refine (EN.out _ _ (W1.out.alloc _) ((N1.out.below ((aM _ _).alloc (aL _) _)).sub (by decide)).e).mono ?_;rintro e w2 ⟨rfl,hb2⟩;have S2:=af.below (af.new w1 100 #[.pointer (some ⟨B,0,none⟩),.int .u64 key,.int .u64 (h:Int),.pointer ap,.int .i64 az,.pointer fp,.int .i64 fz]) hb2 (by simp);obtain ⟨s0,s1,s2,s3,s4,s5,s6⟩:=jH S2;have hzS:=S2.lt;have W2:=aa ((W1.out.alloc _).later hb2);have N2:=aa ((N1.out.below ((aM _ _).alloc (aL _) _)).below hb2);have L2:=aa ((Gx.out.later ((aM _ _).alloc (aL _) _)).later hb2);have C2:=aa ((ru.out.alloc (.cells #[.pointer (some ⟨B,0,none⟩),.int .u64 key,.int .u64 (h:Int),.pointer ap,.int .i64 az,.pointer fp,.int .i64 fz] 100)).au hb2);have Kc:=(B5.alloc _).below hb2 (by simp;omega);obtain ⟨ae3,aci,ae2⟩:=cells3 Kc;have abK:=Kc.lt)
    | (go_at_call 46;refine (PL.out _ (by have h1:=HF.out;rw [HZ.out] at h1;rw [HZ.out];exact h1) _ (W2.out.alloc _) ((N2.out.below ((aM _ _).alloc (aL _) _)).sub (by decide)).e).mono ?_;rintro e w3 ⟨rfl,hw3,hc3⟩;have H3:=aa hw3;have C3:=aa hc3;clear hw3 hc3))
   go_ret2;exact ⟨rfl,H3.out,(L2.out.later ((aM _ _).alloc (aL _) _)).aA C3.out nLB,((C2.out.alloc _).mono (λ_ _ e => .inl e)).trans (C3.out.mono (λ_ _ e => .inr e))⟩
theorem Kk (B Q N0:Nat) (T:ae) (hT:bq T) (key:Int) (h:Nat) (hh:h<18446744073709551616) (q:Option Addr) (lp:Option Nat) (hq:di q lp) (mt:aG) (x1 y1 z1:Int) (E:Nat->Addr) (w:World) (hW:TS w B Q T) (hL:LW w lp mt)
 (hlp:jb lp B Q N0) (hN:Low w E N0 [1,4,5]) (hBN:N0<=B) (hQN:N0<=Q) :
 Calls Tryz.prog 41 #[.pointer (some ⟨B,0,none⟩),.agg #[.pointer q,.int .i64 x1,.int .i64 y1,.int .i64 z1],.int .u64 key,.int .u64 (h:Int)] w λe w' =>
  e = .returned (.tuple #[(T.bA key h).pg,.bool (T.has key h)])/\TS w' B Q (T.eB key h)/\LW w' lp (addN mt x1 y1 z1 (T.looks key h))/\ah (λb=>lp=some b\/b=B\/b=Q) w w':=by
 have pO:=hlp.oq hL hN.lt;have NL:∀b,w.heap.size<=b->¬lp=some b:=λb hb e=>by have:=(pO b e).2.2.1;omega
 have nB:¬lp=some B:=λe=>(pO B e).1 rfl;have nQ:¬lp=some Q:=λe=>(pO Q e).2.1 rfl;have HW:=aa hW;have HL:=aa hL;have HN:=aa hN;have hBz:=hW.head.lt;have hQz:=hW.lt;have SK:=aa (λ(w':World) (hb:Below w.heap.size w w')=>qA B Q T hT key h hh q lp hq mt x1 y1 z1 w' (hW.later hb) (hL.later hb) (λb e=>by obtain ⟨a1,a2,a3,a4⟩:=pO b e;exact ⟨a1,a2,bM a3 hb.size,a4⟩) (hN.t.below hb));have EN:=aa (λ(fp:Option Addr) (w':World) hW' he'=>qN B Q T hT key h fp (T.jU key h) E w' hW' he');have RM:=aa (λ(fp:Option Addr) (w':World) hW' he'=>Eb B Q T hT key h fp (T.jU key h) E w' hW' he');have LG:∀b,lp=some b->N0<=b:=λb e=>(hlp b e).2.2;have nLB:∀b,lp=some b->¬ (b=B\/b=Q):=λb e=>by have:=hlp b e;omega
 have hdel:T.has key h=false->T.eB key h=T:=λe=>by unfold ae.eB;rw [e];rfl
 have HDL:=aa hdel;clear hW hL hlp hN pO hT hdel;simp only [dO,ai.pg] at SK EN RM ⊢;generalize (T.bA key h).key=k0 at *
 generalize (T.bA key h).val=k1 at *
 generalize (T.bA key h).hash=k2 at *
 generalize T.mI Q key h=ap at *
 generalize T.jU key h=fz at *
 generalize T.iQ key h=az at *
 cases hs:T.has key h with
 | true =>
  simp only [hs,if_true,fG] at EN RM ⊢;clear hs HDL;go_enter Tryz.func41,Tryz.ntmps41
  go_wp2_with (first
   | (go_at_call 43;refine (SK.out _ (by go_grown)).mono ?_;rintro e w1 ⟨fp,rfl,hfp,hl1,hc1⟩;have Gx:=aa hl1;have ru:=aa (((ah.of_below (show Below w.heap.size w _ by go_grown))).trans hc1);have hz1:=hc1.size;have W1:=aa ((TW.later HW.out (show Below w.heap.size w _ by go_grown)).aA hc1 nB nQ);have N1:=aa ((HN.out.below (show Below w.heap.size w _ by go_grown)).aA hc1 LG);have B5:af w1 (w.heap.size+1) 46 #[.int .u64 0,.int .u64 0,.int .u64 0]:=af.aA (af.aF (by simp)) hc1 (NL _ (by omega));obtain ⟨b50,b51,b52⟩:=cells3 B5;have hz5:=B5.lt;clear hfp hl1 hc1)
   | (go_at_call 44;refine (EN.out _ _ (W1.out.alloc _) ((N1.out.below ((aM _ _).alloc (aL _) _)).sub (by decide)).e).mono ?_;rintro e w2 ⟨rfl,hb2⟩;have S2:=af.below (af.new w1 100 #[.pointer (some ⟨B,0,none⟩),.int .u64 key,.int .u64 (h:Int),.pointer ap,.int .i64 az,.pointer fp,.int .i64 fz]) hb2 (by simp);obtain ⟨s0,s1,s2,s3,s4,s5,s6⟩:=jH S2;have hzS:=S2.lt;have hz2:=hb2.size;have W2:=aa ((W1.out.alloc _).later hb2);have N2:=aa ((N1.out.below ((aM _ _).alloc (aL _) _)).below hb2);have L2:=aa ((Gx.out.later ((aM _ _).alloc (aL _) _)).later hb2);have C2:=aa ((ru.out.alloc (.cells #[.pointer (some ⟨B,0,none⟩),.int .u64 key,.int .u64 (h:Int),.pointer ap,.int .i64 az,.pointer fp,.int .i64 fz] 100)).au hb2);have Kc:=(B5.alloc _).below hb2 (by simp;omega);obtain ⟨ae3,aci,ae2⟩:=cells3 Kc;have ajH:=λj=>Kc.frozen j;have abK:=Kc.lt)
   )
  have hX:¬ (w1.heap.size=B\/w1.heap.size=Q):=by omega
  have hX5:¬ (w.heap.size+1=B\/w.heap.size+1=Q):=by omega
  refine ag (λb=>b=B\/b=Q) #[⟨0,0,2^23,2048,1⟩,⟨0,0,2^24,4096,0⟩,⟨2,2,2^25,2^24,0⟩,⟨4,6,2^26,(2^10+2^25),1⟩,⟨12,14,2^27,(2^25+2^26),2⟩,⟨20,30,2^28,(2^25+2^27),0⟩,⟨36,62,2^29,(2^25+2^28),0⟩,⟨17,31,0,(2^8+2^23),3⟩,⟨255,255,512,2^29,0⟩] 9 [(0,1),(1,0),(2,0),(3,1),(4,2),(5,0),(6,0),(7,3),(8,0)] (by kernel_rfl) (by kernel_rfl) (by kernel_rfl) (by kernel_rfl) (by kernel_rfl) (by kernel_rfl) (λc a d v w h=>by cases d <;> exact h) ?_;refine jR [_,_,_] Tryz.underlying46 ?_
  try refine aC ?_;refine aj ?_;refine aj ?_
  first
   | (refine jR [_,_,_,_,_,_,_] Tryz.underlying100 ?_)
  try refine aC ?_
  first
   | (refine jD ?_)
   | (refine iK λK hK=>?_;go_wp2_with ((go_at_call 92;refine (RM.out _ _ (TW.drew (W2.out.alloc _)) (((N2.out.below ((aM _ _).alloc (aL _) _)).below (aM _ _).drew).sub (by decide)).e).mono ?_;rintro e w3 ⟨rfl,hw3,hc3⟩;have H3:=aa hw3;have C3:=aa hc3;have B53:=(Kc.alloc (.cells #[.int .u64 k0,.int .u64 k1,.int .u64 k2] 46)).drew.aA hc3 hX5;obtain ⟨anU,anT,anS⟩:=cells3 B53;have anR:=λj=>B53.frozen j;have amQ:=B53.lt;clear hw3));refine iX hK (h:=?_);clear hK K)
  try refine aC ?_
  first
   | (refine jS ?_)
  try refine aC ?_;refine aj ?_
  refine fA λK hK=>?_;go_wp2_with (fail);refine hK.out _ _ ?_;clear hK K
  try refine aC ?_;refine aj ?_
  refine aD ?_;go_wp2;obtain ⟨r0,r1,r2⟩:=Uq (x := .int .u64 k0) (y := .int .u64 k1) (z := .int .u64 k2) B53;refine bodyPost_ret (v := .tuple #[.agg #[.int .u64 k0,.int .u64 k1,.int .u64 k2],.bool true]) (by simp [results,Tryz.results41,go_sem,r0,r1,r2]) rfl ⟨rfl,?_,?_,?_⟩
  . exact TW.aA (X:=λb=>b=w.heap.size+1) H3.out ((((ah.refl _ _).set1 _ _).set1 _ _).set1 _ _) (by omega) (by omega)
  . exact ((((L2.out.later ((aM _ _).alloc (aL _) _)).later (aM _ _).drew).aA C3.out nLB)).aA (X:=λb=>b=w.heap.size+1) ((((ah.refl _ _).set1 _ _).set1 _ _).set1 _ _) (λb e e2=>NL b (by omega) e)
  . exact (((((C2.out.alloc _).drew.mono (λ_ _ e => .inl e)).trans (C3.out.mono (λ_ _ e => .inr e))).setCell (.inr (by simp)) _).setCell (.inr (by simp)) _).setCell (.inr (by simp)) _
 | false =>
  rw [HDL.out hs];simp only [hs,Bool.false_eq_true,if_false] at EN ⊢;clear hs HDL RM;go_enter Tryz.func41,Tryz.ntmps41
  go_wp2_with (first
   | (go_at_call 43;refine (SK.out _ (by go_grown)).mono ?_;rintro e w1 ⟨fp,rfl,hfp,hl1,hc1⟩;have Gx:=aa hl1;have ru:=aa (((ah.of_below (show Below w.heap.size w _ by go_grown))).trans hc1);have hz1:=hc1.size;have W1:=aa ((TW.later HW.out (show Below w.heap.size w _ by go_grown)).aA hc1 nB nQ);have N1:=aa ((HN.out.below (show Below w.heap.size w _ by go_grown)).aA hc1 LG);have B5:af w1 (w.heap.size+1) 46 #[.int .u64 0,.int .u64 0,.int .u64 0]:=af.aA (af.aF (by simp)) hc1 (NL _ (by omega));obtain ⟨b50,b51,b52⟩:=cells3 B5;have hz5:=B5.lt;clear hfp hl1 hc1)
   | (go_at_call 44;refine (EN.out _ _ (W1.out.alloc _) ((N1.out.below ((aM _ _).alloc (aL _) _)).sub (by decide)).e).mono ?_;rintro e w2 ⟨rfl,hb2⟩;have S2:=af.below (af.new w1 100 #[.pointer (some ⟨B,0,none⟩),.int .u64 key,.int .u64 (h:Int),.pointer ap,.int .i64 az,.pointer fp,.int .i64 fz]) hb2 (by simp);obtain ⟨s0,s1,s2,s3,s4,s5,s6⟩:=jH S2;have hzS:=S2.lt;have hz2:=hb2.size;have W2:=aa ((W1.out.alloc _).later hb2);have N2:=aa ((N1.out.below ((aM _ _).alloc (aL _) _)).below hb2);have L2:=aa ((Gx.out.later ((aM _ _).alloc (aL _) _)).later hb2);have C2:=aa ((ru.out.alloc (.cells #[.pointer (some ⟨B,0,none⟩),.int .u64 key,.int .u64 (h:Int),.pointer ap,.int .i64 az,.pointer fp,.int .i64 fz] 100)).au hb2);have Kc:=(B5.alloc _).below hb2 (by simp;omega);obtain ⟨ae3,aci,ae2⟩:=cells3 Kc;have ajH:=λj=>Kc.frozen j;have abK:=Kc.lt)
   )
  refine ag (λ_=>False) #[⟨0,0,2^23,2048,1⟩,⟨0,0,2^24,4096,0⟩,⟨2,2,2^25,2^24,0⟩,⟨4,6,2^26,(2^10+2^25),1⟩,⟨12,14,2^27,(2^25+2^26),2⟩,⟨20,30,2^28,(2^25+2^27),0⟩,⟨36,62,2^29,(2^25+2^28),0⟩,⟨17,31,0,(2^8+2^23),3⟩,⟨255,255,512,2^29,0⟩] 9 [(0,1),(1,0),(2,0),(3,1),(4,2),(5,0),(6,0),(7,3),(8,0)] (by kernel_rfl) (by kernel_rfl) (by kernel_rfl) (by kernel_rfl) (by kernel_rfl) (by kernel_rfl) (λc a d v w h=>by cases d <;> exact h) ?_;refine jR [_,_,_] Tryz.underlying46 ?_
  try refine aC ?_;refine aj ?_;refine aj ?_
  first
   | (refine jD ?_)
  try refine aC ?_
  first
   | (refine jD ?_)
  try refine aC ?_
  first
   | (refine jD ?_)
  try refine aC ?_;refine aj ?_
  refine fA λK hK=>?_;go_wp2_with (fail);refine hK.out _ _ ?_;clear hK K
  try refine aC ?_;refine aj ?_
  refine aD ?_;go_wp2;refine aJ (λWf hWf=>?_);have hR:af Wf (w.heap.size+1) 46 #[.int .u64 k0,.int .u64 k1,.int .u64 k2]:=by rw [hWf];exact ((((Kc.set 0 _).set 1 _).set 2 _).alloc _).drew
  have hC:ah (λb=>b=w.heap.size+1) w2 Wf:=by rw [hWf];exact (((((ah.refl _ _).set1 _ _).set1 _ _).set1 _ _).alloc _).drew
  obtain ⟨r0,r1,r2⟩:=cells3 hR;refine bodyPost_ret (v := .tuple #[.agg #[.int .u64 k0,.int .u64 k1,.int .u64 k2],.bool false]) (by simp [results,Tryz.results41,go_sem,r0,r1,r2]) rfl ⟨rfl,?_,?_,?_⟩
  . exact TW.aA W2.out hC (by omega) (by omega)
  . exact L2.out.aA hC (λb e e2=>NL b (by omega) e)
  . exact (C2.out.mono (λ_ _ e => .inl e)).trans' hC (λi hi e=>by omega)
end Go.Proofs.YtolhmibejhldkaaGreatDoor
namespace Go.Proofs.YtolhmibejhldkaaGreatDoor
open Go.RowKit Go.Proofs
def kD (w:World) (v:Value) (l:List ByteArray):Prop :=
 ∃a cap,v = .slice a l.length cap/\(l≠ []->∃b off,a=some ⟨b,off,none⟩/\b<w.heap.size/\∀i (h:i<l.length),w.cell? ⟨b,off+i,none⟩=some (.string l[i]))
theorem Ec {w:World} {base n:Nat} {e:TypeId} {v:Value} {l:List ByteArray} (h:w.ownsRow base e 1 v n (l.map Value.string)):kD w v l:=by
 have hl:l.length=n:=by have:=h.1;simpa using this
 rcases h.2 with ⟨rfl,h0⟩ | ⟨g,cap,cur,rfl,hb,hg,h1,h2,h3,h4⟩
 . subst h0;obtain rfl:l = []:=by simpa using hl
   exact ⟨none,0,rfl,λh=>absurd rfl h⟩
 . subst hl;refine ⟨_,cap,rfl,λ_=>⟨g,0,rfl,(Array.getElem?_eq_some_iff.1 hg).1,λi hi=>?_⟩⟩;have:=h.cells (g:=g) rfl i (Value.string l[i]) (by simp [hi]);simp only [Addr.add] at this;rw [Nat.zero_add];split at this
   . subst i;exact this
   . rw [Nat.zero_add] at this;exact this
theorem kD.later {w w':World} {v:Value} {l:List ByteArray} (h:kD w v l) (hb:Below w.heap.size w w'):kD w' v l:=by
 obtain ⟨a,cap,rfl,hx⟩:=h;refine ⟨a,cap,rfl,λhne=>?_⟩;obtain ⟨b,off,rfl,hz,hc⟩:=hx hne;exact ⟨b,off,rfl,bM hz hb.size,λi hi=>(hb.cell (p:=⟨b,off+i,none⟩) hz).trans (hc i hi)⟩
theorem kD.aA {X:Nat->Prop} {w w':World} {base n:Nat} {e:TypeId} {v:Value} {l:List ByteArray} (h:w.ownsRow base e 1 v n (l.map Value.string)) (hc:ah X w w') (hX:∀b,base<=b->¬X b):kD w' v l :=
 Ec (fo h hc hX)
attribute [local go_sem] neq_nilG eql_nilG
theorem Cx (B Q n:Nat) (v1 v2:Value) (w:World) (hb:af w B 143 #[.slice (some ⟨Q,0,none⟩) n n,v1,v2]) :
 Calls Tryz.prog 49 #[.pointer (some ⟨B,0,none⟩)] w λe w'=>e = .returned (.int .i64 (n:Int))/\w=w':=by
 have c0:=hb.cell 0;have hl:=hb.lt;clear hb;go_enter Tryz.func49,Tryz.ntmps49
 go_wp2;go_ret;exact ⟨rfl,rfl⟩
theorem Nc (B:Nat) (v v2:Value) (tb:Int) (w:World) (hb:af w B 143 #[v,v2,.int .i64 tb]) :
 Calls Tryz.prog 48 #[.pointer (some ⟨B,0,none⟩)] w λe w'=>e = .returned (.int .i64 tb)/\w=w':=by
 have c0:=hb.cell 2;have hl:=hb.lt;clear hb;go_enter Tryz.func48,Tryz.ntmps48
 go_wp2;go_ret;exact ⟨rfl,rfl⟩
theorem nP (w:World) (x:Value) (t:TypeId):∀j u,[x][j]?=some u->(w.alloc (.cells #[x] t)).cell? ((⟨w.heap.size,0,none⟩:Addr).add j)=some u:=by
 intro j u h
 match j,h with
 | 0,h=>simp only [List.getElem?_cons_zero,Option.some.injEq] at h;subst h;exact (af.new w t #[x]).cell 0
 | j+1,h=>simp at h
def ae.clr (T:ae) (i:Nat):ae:={ T with M:=upd T.M i (rep 128),S:=upd T.S i (λ_=>ai.zero)}
theorem Kj (B Q:Nat) (T:ae) (hn:T.n<=64) (i:Nat) (hi:i<T.n) (q:Option Addr) (lp:Option Nat) (hq:di q lp) (mt:aG) (x1 y1 z1:Int) (w:World) (hW:TS w B Q T) (hL:LW w lp mt) (hlp:∀b,lp=some b->b<w.heap.size/\b≠B) :
 Calls Tryz.prog 181 #[.pointer (some ⟨B,0,none⟩),.agg #[.pointer q,.int .i64 x1,.int .i64 y1,.int .i64 z1],.int .i64 (i:Int)] w λe w' =>
  e = .returned (.tuple #[.agg #[.pointer (some ⟨Q,i*25,none⟩)],.bool true])/\LW w' lp (mt.add x1 y1 z1)/\ah (λb=>lp=some b) w w':=by
 have HW:=aa hW;have HL:=aa hL;have c0:=hW.head.cell 0;have hlB:=hW.head.lt;have NL:∀b,w.heap.size<=b->¬lp=some b:=λb hb e=>by have:=(hlp b e).1;omega
 have nB:¬lp=some B:=λe=>(hlp B e).2 rfl;have d0:decide ((i:Int)<0)=false:=by simp
 have dn:decide ((i:Int)>=(T.n:Int))=false:=by simp;omega
 have hiI:(i:Int)<(T.n:Int):=by omega
 have LK:=aa (λ(w':World) (hb:Below w.heap.size w w')=>Cg Q (i*25) q lp hq mt x1 y1 z1 w' (hL.later hb));have m0:¬lp=some w.heap.size:=NL _ (aL _);have m1:¬lp=some (w.heap.size+1):=NL _ (by omega);clear hW hL hlp;go_enter Tryz.func181,Tryz.ntmps181
 go_wp2;refine ag (λb=>lp=some b) #[⟨0,0,2^20,1,0⟩,⟨1,1,2^21,2^20,0⟩,⟨2,3,2^22,2^21,0⟩,⟨4,7,2^23,2^22,1⟩,⟨0,0,2^24,4,0⟩,⟨24,31,2^25,(2^23+2^24),0⟩,⟨0,0,2^26,16,1⟩,⟨96,127,2^27,(2^25+2^26),3⟩,⟨255,255,0,(2^6+2^27),3⟩,⟨511,511,128,0,0⟩] 72 [(0,0),(1,0),(2,0),(3,1),(4,0),(5,0),(6,1),(7,3),(8,3),(9,0)] (by kernel_rfl) (by kernel_rfl) (by kernel_rfl) (by kernel_rfl) (by kernel_rfl) (by kernel_rfl) (λc a d v w h=>by cases d <;> exact h) ?_;refine aj ?_;refine aj ?_;refine aj ?_;refine bW Tryz.underlying141 ?_
 try refine aC ?_;refine aj ?_;refine aj ?_
 refine jR [_,_,_,_] Tryz.underlying50 ?_
 try refine aC ?_
 refine fA λK hK=>?_;go_wp2_with (go_at_call 88;refine (LK.out _ (by go_grown)).mono ?_;rintro e w1 ⟨rfl,hl1,hc1⟩;have Gx:=aa hl1;have ru:=aa ((ah.of_below (show Below w.heap.size w _ by go_grown)).trans hc1);have hz1:=hc1.size;have B6:af w1 (w.heap.size+1) 96 #[.pointer none]:=af.aA (af.drew (af.aF (by simp))) hc1 m1;have b6:=B6.cell 0;have bf6:=λj=>B6.frozen j;have hz6:=B6.lt;clear hl1);refine hK.out _ _ ?_;clear hK K
 try refine aC ?_
 refine fA λK hK=>?_;go_wp2_with (fail);refine hK.out _ _ ?_;clear hK K
 try refine aC ?_;refine aj ?_
 refine aD ?_;go_wp2;have r0:=(B6.set 0 (.pointer (some ⟨Q,i*25,none⟩))).cell 0;refine bodyPost_ret (v := .tuple #[.agg #[.pointer (some ⟨Q,i*25,none⟩)],.bool true]) (by simp [results,Tryz.results181,go_sem,r0]) rfl ⟨rfl,?_,?_⟩
 . exact Gx.out.aA (X:=λb=>b=w.heap.size+1) ((ah.refl _ _).set1 _ _) (λb e e2=>NL b (by omega) e)
 . exact ru.out.setCell (.inr (by simp)) _
theorem Ki (B Q:Nat) (T:ae) (hn:T.n<=64) (i:Nat) (hi:i<T.n) (q:Option Addr) (lp:Option Nat) (hq:di q lp) (mt:aG) (x1 y1 z1:Int) (w:World) (hW:TS w B Q T) (hL:LW w lp mt) (hlp:∀b,lp=some b->b<w.heap.size/\b≠B/\b≠Q) :
 Calls Tryz.prog 156 #[.pointer (some ⟨B,0,none⟩),.agg #[.pointer q,.int .i64 x1,.int .i64 y1,.int .i64 z1],.int .i64 (i:Int)] w λe w' =>
  e = .returned .nilIface/\TS w' B Q (T.clr i)/\LW w' lp (mt.add x1 y1 z1)/\ah (λb=>lp=some b\/b=Q) w w':=by
 have HW:=aa hW;have NL:∀b,w.heap.size<=b->¬lp=some b:=λb hb e=>by have:=(hlp b e).1;omega
 have nB:¬lp=some B:=λe=>(hlp B e).2.1 rfl;have nQ:¬lp=some Q:=λe=>(hlp Q e).2.2 rfl;have nLQ:∀b,lp=some b->¬b=Q:=λb e=>(hlp b e).2.2;have LK:=aa (λ(w':World) (hb:Below w.heap.size w w')=>Kj B Q T hn i hi q lp hq mt x1 y1 z1 w' (hW.later hb) (hL.later hb) (λb e=>⟨bM (hlp b e).1 hb.size,(hlp b e).2.1⟩));clear hW hL hlp;go_enter Tryz.func156,Tryz.ntmps156
 go_wp2_with (first
  | (go_at_call 181;refine (LK.out _ (by go_grown)).mono ?_;rintro e w1 ⟨rfl,hl1,hc1⟩;have Gx:=aa hl1;have ru:=aa ((ah.of_below (show Below w.heap.size w _ by go_grown)).trans hc1);have W1:=aa ((TW.later HW.out (show Below w.heap.size w _ by go_grown)).aA hc1 nB nQ);clear hl1 hc1)
  | (go_at_call 89;refine (EX Q (i*25) (T.M i) (T.S i) _ ((W1.out.alloc _).at' i hi)).mono ?_;rintro e w2 ⟨rfl,g2,c2⟩;have C2:=aa c2.aA;have W2:=aa ((W1.out.alloc (.cells #[.pointer (some ⟨Q,i*25,none⟩)] 96)).group g2 c2);clear g2 c2))
 go_ret;exact ⟨rfl,W2.out,(Gx.out.later ((aM _ _).alloc (aL _) _)).aA C2.out nLQ,((ru.out.alloc _).mono (λ_ _ e => .inl e)).trans (C2.out.mono (λ_ _ e => .inr e))⟩
end Go.Proofs.YtolhmibejhldkaaGreatDoor
namespace Go.Proofs.YtolhmibejhldkaaGreatDoor
open Go.RowKit Go.Proofs
attribute [local go_sem] neq_nilG
theorem Ba {w:World} {base g:Nat} {e:TypeId} {n size:Nat} {xs:List Value} (h:w.ownsRow base e size (.slice (some ⟨g,0,none⟩) n n) n xs):af w g e xs.toArray:=by
 rcases h.2 with ⟨h1,_⟩ | ⟨g',cap,cur,h1,_,h3,_,_,h4,h5⟩
 . cases h1
 . simp only [Value.slice.injEq,Option.some.injEq,Addr.mk.injEq,and_true,true_and] at h1;obtain ⟨rfl,rfl⟩:=h1;have:xs=cur.toList:=by rw [<-h5,List.take_of_length_le (by simp [h4])]
   rw [this];exact h3
def Dx:Array Value := #[.int .u64 0,.int .u64 0,.int .u64 0,.int .u64 0,.int .u64 0,.int .u64 0,.int .u64 0,.int .u64 0,.int .u64 0,.int .u64 0,.int .u64 0,.int .u64 0,.int .u64 0,.int .u64 0,.int .u64 0,.int .u64 0,.int .u64 0,.int .u64 0,.int .u64 0,.int .u64 0,.int .u64 0,.int .u64 0,.int .u64 0,.int .u64 0,.int .u64 0]
theorem Rj:Dx=nC 25 (gF 0 (λ_=>ai.zero)):=rfl
theorem aby (n i j:Nat) (hi:i<n) (hj:j<25):(madeCells Dx (n*25))[i*25+j]?=some (gF 0 (λ_=>ai.zero) j):=by
 have hlt:i*25+j<n*25:=by
  have:(i+1)*25<=n*25:=Nat.mul_le_mul_right _ hi;omega
 unfold madeCells;rw [Array.getElem?_map,Array.getElem?_range,if_pos hlt];have hz:Dx.size=25:=rfl;have hm:(i*25+j) % 25=j:=by omega
 simp only [Option.map_some,hz,hm]
 congr 1
 have:=gV 25 (gF 0 (λ_=>ai.zero)) j hj;rw [<-Rj] at this;rw [getElem!_def,this]
theorem Nw {w:World} {base Q n:Nat} {e:TypeId} (h:w.ownsRow base e 25 (.slice (some ⟨Q,0,none⟩) n n) n (madeCells Dx (n*25)).toList):∀i,i<n->GW w Q (i*25) 0 (λ_=>ai.zero):=λi hi=>by
 have hb:=Ba h;rw [Array.toArray_toList] at hb;exact ⟨_,_,hb,λj hj=>aby n i j hi hj⟩
theorem Qz (n:Nat) (hr:aN (n:Int)=true) (w:World) :
 Calls Tryz.prog 87 #[.int .i64 (n:Int)] w λe w' => ∃B Q,e = .returned (.tuple #[.pointer (some ⟨B,0,none⟩),.nilIface])/\w.heap.size<=B/\w.heap.size<=Q/\TW w' B Q n (λ_=>0) (λ_ _=>ai.zero) 0 0/\Below w.heap.size w w':=by
 obtain ⟨i0,hi,hz0,hz1,hz2⟩:=info_parts agd;have hn:n<=64:=by rw [dG] at hr;omega
 have RT:=aa (λ(w':World)=>fu (n:Int) w');rw [hr] at RT;clear hr;go_enter Tryz.func87,Tryz.ntmps87
 go_wp2_with (first
  | (go_at_call 104;refine (RT.out _).mono ?_;rintro e w' ⟨rfl,rfl⟩)
  | (at_make;refine wpList_make_full _ rfl _ _ 141 rfl w.heap.size 147 i0 (.agg Dx) 25 Tryz.underlying141 hi hz0 hz1 .i64 .i64 _ _ n rfl rfl rfl rfl (by rw [hz2];omega) (by unfold maxLen;omega) (aL _) ?_;intro w1 hown1 hgrow1;have HO:=aa hown1;have hB1:Below w.heap.size w w1:=(aM _ _).grown hgrow1 (aL _) (λk e=>by cases e);clear hgrow1 hown1))
 go_ret2;have hbl:=Ba HO.out;have hlt:=hbl.lt;exact ⟨w1.heap.size,w.heap.size,rfl,hB1.size,aL _,⟨af.new _ _ _,by omega,λi hi=>(Nw HO.out i hi).alloc _,by simp;omega⟩,hB1.alloc hB1.size _⟩
theorem aa6 (n:Nat) (hr:aN (n:Int)=true) (w:World) :
 Calls Tryz.prog 37 #[.int .i64 (n:Int)] w λe w' => ∃B Q,e = .returned (.tuple #[.pointer (some ⟨B,0,none⟩),.nilIface])/\w.heap.size<=B/\w.heap.size<=Q/\TW w' B Q n (λ_=>rep 128) (λ_ _=>ai.zero) 0 0/\Below w.heap.size w w':=by
 have hn:n<=64:=by rw [dG] at hr;omega
 have RA:=aa (λ(w':World)=>Qz n hr w');clear hr;go_enter Tryz.func37,Tryz.ntmps37
 go_wp2_with (go_at_call 87;refine (RA.out _).mono ?_;rintro e w1 ⟨B,Q,rfl,hB,hQ,hT,hb1⟩;have HT1:=aa hT;have c0:=hT.head.cell 0;clear hT)
 go_loopw [20] (λv20 wr => ∃k:Nat,k<=n/\v20 = .int .i64 (k:Int)/\TW wr B Q n (λi=>if i<k then rep 128 else 0) (λ_ _=>ai.zero) 0 0/\Below w.heap.size w wr) (λv20 _=>n-(intOf v20).toNat)
 case atStart=>exact ⟨0,o7 _,rfl,by simpa using HT1.out,hb1⟩
 case round =>
  clear HT1 c0;obtain ⟨k,hk,rfl,hT,hBw⟩:=hrel;have HT:=aa hT;have QM:=hBw.size;have c0:=hT.head.cell 0;have hlB:=hT.head.lt;have hlQ:=hT.lt;have hne:=hT.ne;clear hT;by_cases hlt:k<n
  . have kJ:(k:Int)<(n:Int):=by omega
    have CL:=aa (λ(w':World) hg'=>EX Q (k*25) (if k<k then rep 128 else 0) (λ_=>ai.zero) w' hg')
    go_wp2_with (first
     | (go_at_call 88;refine (ET _ _ _ _ _ _).mono ?_;rintro e w2 ⟨rfl,hb2⟩;have HT2:=aa (HT.out.later hb2))
     | (go_at_call 89;refine (CL.out _ (HT2.out.at' k hlt)).mono ?_;rintro e w3 ⟨rfl,g3,c3⟩;have HT3:=aa (HT2.out.group g3 c3);have hB3:=hBw.trans ((hb2.mono QM).trans (c3.aA.below (n:=w.heap.size) (qH QM hb2.size) (λj hj e=>by omega)));clear g3 c3))
    go_roundw
    case rel =>
     refine ⟨k+1,by omega,by go_num,?_,hB3⟩
     have e1:(λj=>if j=k then rep 128 else if j<k then rep 128 else 0)=λj=>if j<k+1 then rep 128 else 0:=by
      funext j
      by_cases e:j=k
      . subst e;simp
      . by_cases c:j<k
        . rw [if_neg e,if_pos c,if_pos (by omega)]
        . rw [if_neg e,if_neg c,if_neg (by omega)]
     have e2:(λj=>if j=k then (λ_=>ai.zero) else (λ(_:Nat) (_:Nat)=>ai.zero) j)=λ(_:Nat) (_:Nat)=>ai.zero:=by
      funext j;simp
     have:=HT3.out;rw [e1] at this;simpa [e2] using this
    case measure=>simp [intOf];omega
  . obtain rfl:k=n:=by omega
    go_wp2;go_ret2;refine ⟨B,Q,rfl,hB,hQ,⟨HT.out.head,HT.out.ne,λi hi=>?_,HT.out.lt⟩,hBw⟩;have:=HT.out.at' i hi
    rwa [if_pos hi] at this
end Go.Proofs.YtolhmibejhldkaaGreatDoor
namespace Go.Proofs.YtolhmibejhldkaaGreatDoor
open Go.RowKit Go.Proofs
structure eT (w:World) (B Q:Nat) (lp:Option Nat) (T:ae) (mt:aG) (E:Nat->Addr) (w0:World):Prop where
 t:TS w B Q T
 good:bq T
 m:LW w lp mt
 low:Low w E w0.heap.size [1,2,4,5,14,16]
 j3:Below w0.heap.size w0 w
 hB:w0.heap.size<=B
 hQ:w0.heap.size<=Q
 hlp:jb lp B Q w0.heap.size
section
variable {w w' w0:World} {B Q:Nat} {lp:Option Nat} {T:ae} {mt:aG} {E:Nat->Addr}
theorem eT.later (h:eT w B Q lp T mt E w0) (hb:Below w.heap.size w w'):eT w' B Q lp T mt E w0 :=
 ⟨h.t.later hb,h.good,h.m.later hb,h.low.below hb,h.j3.trans (hb.mono h.j3.size),h.hB,h.hQ,h.hlp⟩
theorem eT.alloc (h:eT w B Q lp T mt E w0) (o:Obj):eT (w.alloc o) B Q lp T mt E w0:=h.later ((aM _ _).alloc (aL _) _)
theorem eT.drew (h:eT w B Q lp T mt E w0):eT w.drew B Q lp T mt E w0:=h.later (aM _ _).drew
theorem eT.Sg (h:eT w B Q lp T mt E w0):B<w.heap.size:=h.t.head.lt
theorem eT.Sd (h:eT w B Q lp T mt E w0):Q<w.heap.size:=h.t.lt
theorem eT.ne (h:eT w B Q lp T mt E w0):B≠Q:=h.t.ne
theorem eT.aA {X:Nat->Prop} (h:eT w B Q lp T mt E w0) (hc:ah X w w') (hX:∀b,X b->w0.heap.size<=b) (hB:¬X B) (hQ:¬X Q) (hl:∀b,lp=some b->¬X b):eT w' B Q lp T mt E w0 :=
 ⟨h.t.aA hc hB hQ,h.good,h.m.aA hc hl,h.low.aA hc hX,h.j3.trans (hc.below (n:=w0.heap.size) h.j3.size (λk hk hx=>by have:=hX k hx;omega)),h.hB,h.hQ,h.hlp⟩
theorem eT.turn (h:eT w B Q lp T mt E w0) {jX:aG} (hl:LW w' lp jX) (hc:ah (λb=>lp=some b) w w'):eT w' B Q lp T jX E w0 :=
 ⟨h.t.aA hc (λe=>(h.hlp B e).1 rfl) (λe=>(h.hlp Q e).2.1 rfl),h.good,hl,h.low.aA hc (λb e=>(h.hlp b e).2.2),h.j3.trans (hc.below (n:=w0.heap.size) h.j3.size (λk hk e=>by have:=(h.hlp k e).2.2;omega)),h.hB,h.hQ,h.hlp⟩
theorem eT.full (h:eT w B Q lp T mt E w0) {T':ae} {jX:aG} (ht:TS w' B Q T') (hg:bq T') (hl:LW w' lp jX) (hc:ah (λb=>lp=some b\/b=B\/b=Q) w w'):eT w' B Q lp T' jX E w0 :=
 ⟨ht,hg,hl,h.low.aA hc (λb e=>by
  have:=h.hB;have:=h.hQ;rcases e with e|e|e
  . exact (h.hlp b e).2.2
  . omega
  . omega),h.j3.trans (hc.below (n:=w0.heap.size) h.j3.size (λk hk e=>by
  have:=h.hB;have:=h.hQ;rcases e with e|e|e
  . have:=(h.hlp k e).2.2;omega
  . omega
  . omega)),h.hB,h.hQ,h.hlp⟩
theorem eT.find (hS:eT w B Q lp T mt E w0) (key:Int) (h:Nat) (hh:h<18446744073709551616) (q:Option Addr) (hq:di q lp) (x1 y1 z1:Int) :
 Calls Tryz.prog 58 #[.pointer (some ⟨B,0,none⟩),.agg #[.pointer q,.int .i64 x1,.int .i64 y1,.int .i64 z1],.int .u64 key,.int .u64 (h:Int)] w λe w' =>
  e = .returned (.tuple #[.agg #[.int .u64 (T.bA key h).key,.int .u64 (T.bA key h).val,.int .u64 (T.bA key h).hash],.bool (T.has key h)])/\eT w' B Q lp T (addN mt x1 y1 z1 (T.looks key h)) E w0/\ah (λb=>lp=some b) w w':=by
 refine (Rt B Q w0.heap.size T hS.good key h hh q lp hq mt x1 y1 z1 E w hS.t hS.m hS.hlp (hS.low.sub (by decide)) hS.hB hS.hQ).mono ?_;rintro e w' ⟨rfl,h1,h2⟩
 exact ⟨rfl,hS.turn h1 h2,h2⟩
theorem eT.put (hS:eT w B Q lp T mt E w0) (key v:Int) (h:Nat) (hh:h<18446744073709551616) (q:Option Addr) (hq:di q lp) (x1 y1 z1:Int) :
 Calls Tryz.prog 154 #[.pointer (some ⟨B,0,none⟩),.agg #[.pointer q,.int .i64 x1,.int .i64 y1,.int .i64 z1],.agg #[.int .u64 key,.int .u64 v,.int .u64 (h:Int)]] w λe w' =>
  e = .returned (.tuple #[.bool (T.bB key h),jF E (T.bN key h)])/\eT w' B Q lp (T.aR key v h) (addN mt x1 y1 z1 (T.looks key h)) E w0/\ah (λb=>lp=some b\/b=B\/b=Q) w w':=by
 refine (Uf B Q w0.heap.size T hS.good key v h hh q lp hq mt x1 y1 z1 E w hS.t hS.m hS.hlp hS.low hS.hB hS.hQ).mono ?_;rintro e w' ⟨rfl,h1,h2,h3⟩
 exact ⟨rfl,hS.full h1 (hS.good.aR v hh) h2 h3,h3⟩
theorem eT.del (hS:eT w B Q lp T mt E w0) (key:Int) (h:Nat) (hh:h<18446744073709551616) (q:Option Addr) (hq:di q lp) (x1 y1 z1:Int) :
 Calls Tryz.prog 41 #[.pointer (some ⟨B,0,none⟩),.agg #[.pointer q,.int .i64 x1,.int .i64 y1,.int .i64 z1],.int .u64 key,.int .u64 (h:Int)] w λe w' =>
  e = .returned (.tuple #[.agg #[.int .u64 (T.bA key h).key,.int .u64 (T.bA key h).val,.int .u64 (T.bA key h).hash],.bool (T.has key h)])/\eT w' B Q lp (T.eB key h) (addN mt x1 y1 z1 (T.looks key h)) E w0/\ah (λb=>lp=some b\/b=B\/b=Q) w w':=by
 refine (Kk B Q w0.heap.size T hS.good key h hh q lp hq mt x1 y1 z1 E w hS.t hS.m hS.hlp (hS.low.sub (by decide)) hS.hB hS.hQ).mono ?_;rintro e w' ⟨rfl,h1,h2,h3⟩
 exact ⟨rfl,hS.full h1 hS.good.eB h2 h3,h3⟩
theorem eT.left (hS:eT w B Q lp T mt E w0):Calls Tryz.prog 100 #[.pointer (some ⟨B,0,none⟩)] w λe w'=>e = .returned (.int .i64 T.left)/\Below w.heap.size w w':=by
 have hb:=hS.good.bounds;exact Hg B Q T.n T.lv T.tb (by omega) (by omega) (by omega) w hS.t.head
theorem eT.len (hS:eT w B Q lp T mt E w0):Calls Tryz.prog 47 #[.pointer (some ⟨B,0,none⟩)] w λe w'=>e = .returned (.int .i64 T.lv)/\w=w' :=
 Ug B _ T.lv T.tb w hS.t.head
theorem eT.acx (hS:eT w B Q lp T mt E w0):Calls Tryz.prog 48 #[.pointer (some ⟨B,0,none⟩)] w λe w'=>e = .returned (.int .i64 T.tb)/\w=w' :=
 Nc B _ _ T.tb w hS.t.head
theorem eT.groups (hS:eT w B Q lp T mt E w0):Calls Tryz.prog 49 #[.pointer (some ⟨B,0,none⟩)] w λe w'=>e = .returned (.int .i64 (T.n:Int))/\w=w' :=
 Cx B Q T.n _ _ w hS.t.head
theorem eT.new {wn:World} {E:Nat->Addr} {n:Nat} (hr:aN (n:Int)=true) (he:EC w0 E [1,2,4,5,14,16]) (hT:iB w0) (hw:Below w0.heap.size w0 w) (ht:TW wn B Q n (λ_=>rep 128) (λ_ _=>ai.zero) 0 0) (hb:Below w.heap.size w wn) (h1:w.heap.size<=B) (h2:w.heap.size<=Q):eT wn B Q none (ae.new n) aG.zero E w0 :=
 ⟨ht,bq.new hr,(λM e=>by cases e),⟨(he.below (hw.trans (hb.mono hw.size))),(hT.below (hw.trans (hb.mono hw.size))),λk hk=>qx _ _ (he k hk),qx _ _ (hT 0 (by decide))⟩,
  hw.trans (hb.mono hw.size),qH hw.size h1,qH hw.size h2,jb.none _ _ _⟩
theorem eT.acD {M:Nat} (hS:eT w B Q none T mt E w0) {jX:aG} (hM:af w M 37 jX.cells) (h1:M≠B) (h2:M≠Q) (h3:w0.heap.size<=M):eT w B Q (some M) T jX E w0 :=
 ⟨hS.t,hS.good,(λM' e=>by cases e;exact hM),hS.low,hS.j3,hS.hB,hS.hQ,(λb e=>by cases e;exact ⟨h1,h2,h3⟩)⟩
theorem eT.Ay (hS:eT w B Q lp T mt E w0):eT w B Q none T aG.zero E w0 :=
 ⟨hS.t,hS.good,(λM' e=>by cases e),hS.low,hS.j3,hS.hB,hS.hQ,jb.none _ _ _⟩
end
theorem di.m (M:Nat):di (some ⟨M,0,none⟩) (some M) := .inr ⟨M,rfl,rfl⟩
theorem di.n:di none none := .inl ⟨rfl,rfl⟩
attribute [local go_sem] neq_nilG eql_nilG
end Go.Proofs.YtolhmibejhldkaaGreatDoor
