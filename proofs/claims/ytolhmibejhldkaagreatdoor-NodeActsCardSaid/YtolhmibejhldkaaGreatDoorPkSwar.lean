/- Joined texts; conditions within. -/
import Derived.WalkKit
import Derived.IntWalk
import Derived.Laws.Bits64
import Derived.Laws.Bits64b
import Derived.RangeFuncNested
import Derived.RangeFuncBound
import Derived.RangeFuncCalls
import Derived.RangeFuncLeaves
import Derived.OwnWalkIn
import Derived.TacticsInMore
import Derived.LoopNIn
import Derived.LoopIn
import Derived.Shelf.Abstract
import Derived.Handy
import Derived.Lib.Hide
import Derived.WalkSmall
import Derived.OrdersHeld
import Derived.Deep.MidRow
import Derived.Deep.RegionHeld3
import Derived.KernelRfl
import Derived.Test.YtolhmibejhldkaaGreatDoorProg
import Derived.ChangeKeysEq
import Derived.LoopN
import Derived.Lib.TrailingZeros
import Derived.LoopTactic
import Derived.Deep.Cut
import Derived.Maps.AppendAt
set_option linter.unusedVariables false
set_option linter.unusedSimpArgs false
set_option maxRecDepth 100000
set_option maxHeartbeats 2000000
namespace Go.Proofs.YtolhmibejhldkaaGreatDoor
open Go.RowKit Go.Proofs
theorem dC {α:Sort _} (a:α):∃x,x=a:=⟨a,rfl⟩
theorem aa {p:Prop} (h:p):Hid p:=Lib.hid h
theorem aL:∀n:Nat,n<=n:=Nat.le_refl
theorem bM {n m k:Nat}:n<m->m<=k->n<k:=Nat.lt_of_lt_of_le
theorem aM (B:Nat) (w:World):Below B w w:=Below.refl B w
theorem qx (w:World) (a:Addr) {u:Value} (h:w.cell? a=some u):a.block<w.heap.size:=World.block_lt_of_cell? w a h
theorem o7:∀n:Nat,0<=n:=Nat.zero_le
theorem qH {n m k:Nat}:n<=m->m<=k->n<=k:=Nat.le_trans
open Go.RowKit
def ln (w i:Nat):Nat:=w / 2 ^ (8*i) % 2 ^ 8
def Gz (l:Nat->Nat):Nat:=l 0+256*l 1+65536*l 2+16777216*l 3+4294967296*l 4+1099511627776*l 5+281474976710656*l 6+72057594037927936*l 7
theorem CV (w i:Nat):ln w i<256:=Nat.mod_lt _ (by decide)
theorem lt8 {i:Nat} (h:i<8):i=0\/i=1\/i=2\/i=3\/i=4\/i=5\/i=6\/i=7:=by omega
theorem UJ (w:Nat) (h:w<18446744073709551616):Gz (ln w)=w:=by
 simp only [Gz,ln,Nat.reduceMul,Nat.reducePow];omega
theorem Cc (l:Nat->Nat) (hl:∀i,i<8->l i<256) (i:Nat) (hi:i<8):ln (Gz l) i=l i:=by
 have h0:=hl 0 (by omega);have h1:=hl 1 (by omega);have h2:=hl 2 (by omega);have h3:=hl 3 (by omega);have h4:=hl 4 (by omega);have h5:=hl 5 (by omega);have h6:=hl 6 (by omega);have h7:=hl 7 (by omega);rcases lt8 hi with rfl|rfl|rfl|rfl|rfl|rfl|rfl|rfl <;> simp only [Gz,ln,Nat.reduceMul,Nat.reducePow] <;> omega
theorem JB (l:Nat->Nat) (hl:∀i,i<8->l i<256):Gz l<18446744073709551616:=by
 have h0:=hl 0 (by omega);have h1:=hl 1 (by omega);have h2:=hl 2 (by omega);have h3:=hl 3 (by omega);have h4:=hl 4 (by omega);have h5:=hl 5 (by omega);have h6:=hl 6 (by omega);have h7:=hl 7 (by omega);unfold Gz;omega
theorem Ht {l m:Nat->Nat} (h:∀i,i<8->l i=m i):Gz l=Gz m:=by
 simp only [Gz,h 0 (by omega),h 1 (by omega),h 2 (by omega),h 3 (by omega),h 4 (by omega),h 5 (by omega),h 6 (by omega),h 7 (by omega)]
theorem adO {a b:Nat} (ha:a<18446744073709551616) (hb:b<18446744073709551616) (h:∀i,i<8->ln a i=ln b i):a=b:=by
 rw [<-UJ a ha,<-UJ b hb];exact Ht h
theorem JV {a:Nat} {l:Nat->Nat} (ha:a<18446744073709551616) (hl:∀i,i<8->l i<256) (h:∀i,i<8->ln a i=l i):a=Gz l :=
 adO ha (JB l hl) λi hi=>by rw [Cc l hl i hi,h i hi]
theorem JE (a b i:Nat):ln (a &&& b) i=ln a i &&& ln b i:=by
 apply Nat.eq_of_testBit_eq;intro j
 simp only [ln,Nat.testBit_and,Nat.testBit_mod_two_pow,Nat.testBit_div_two_pow];cases decide (j<8) <;> simp
theorem acE (a b i:Nat):ln (a ||| b) i=ln a i ||| ln b i:=by
 apply Nat.eq_of_testBit_eq;intro j
 simp only [ln,Nat.testBit_or,Nat.testBit_mod_two_pow,Nat.testBit_div_two_pow];cases decide (j<8) <;> simp
theorem adN (a b i:Nat):ln (a ^^^ b) i=ln a i ^^^ ln b i:=by
 apply Nat.eq_of_testBit_eq;intro j
 simp only [ln,Nat.testBit_xor,Nat.testBit_mod_two_pow,Nat.testBit_div_two_pow];cases decide (j<8) <;> simp
theorem NN (a i:Nat) (ha:a<18446744073709551616) (hi:i<8):ln (18446744073709551615-a) i=255-ln a i:=by
 rcases lt8 hi with rfl|rfl|rfl|rfl|rfl|rfl|rfl|rfl <;> simp only [ln,Nat.reduceMul,Nat.reducePow] <;> omega
def rep (b:Nat):Nat:=72340172838076673*b
theorem abd (b:Nat):rep b=Gz (λ_=>b):=by unfold rep Gz;dsimp only;omega
theorem oG (b i:Nat) (hb:b<256) (hi:i<8):ln (rep b) i=b:=by rw [abd,Cc _ (λ_ _=>hb) i hi]
theorem Nv (b:Nat) (hb:b<256):rep b<18446744073709551616:=by unfold rep;omega
theorem Ig:9259542123273814144=rep 128:=by decide
theorem UY:9187201950435737471=rep 127:=by decide
def bQ (f:Nat->Bool):Nat:=Gz (λi=>if f i then 128 else 0)
theorem Bi (f:Nat->Bool):∀i,i<8->(if f i then 128 else 0)<256:=λi _=>by split <;> decide
theorem lW (f:Nat->Bool):bQ f<18446744073709551616:=JB _ (Bi f)
theorem Ev (f:Nat->Bool) (i:Nat) (hi:i<8):ln (bQ f) i=if f i then 128 else 0:=Cc _ (Bi f) i hi
theorem ae5:∀x:Fin 256,x.val &&& 128=if 128<=x.val then 128 else 0:=by decide +kernel
def fF (w:Nat) (i:Nat):Bool:=decide (128<=ln w i)
theorem Sv (w:Nat) (hw:w<18446744073709551616):w &&& 9259542123273814144=bQ (fF w):=by
 refine JV (Nat.lt_of_le_of_lt Nat.and_le_left hw) (Bi _) λi hi=>?_;rw [JE,Ig,oG 128 i (by decide) hi];have:=ae5 ⟨ln w i,CV w i⟩;simp only at this;rw [this];simp [fF]
theorem Ri:∀x:Fin 256,(255-(((x.val &&& 127)+127) ||| x.val)) &&& 128=if x.val=0 then 128 else 0:=by decide +kernel
theorem Iz:∀x:Fin 256,(x.val &&& 127)<=127:=by decide +kernel
def aU (w b:Nat) (i:Nat):Bool:=decide (ln w i=b)
theorem SX (x i:Nat) (hi:i<8):ln ((x &&& 9187201950435737471)+9187201950435737471) i=(ln x i &&& 127)+127:=by
 have h1:x &&& 9187201950435737471=Gz (λi=>ln x i &&& 127):=by
  refine JV (Nat.lt_of_le_of_lt Nat.and_le_right (by decide)) (λi _=>?_) λi hi=>?_
  . have:=Iz ⟨ln x i,CV x i⟩;simp only at this;omega
  . rw [JE,UY,oG 127 i (by decide) hi]
 have h2:(x &&& 9187201950435737471)+9187201950435737471=Gz (λi=>(ln x i &&& 127)+127):=by
  rw [h1];simp only [Gz];omega
 rw [h2];exact Cc _ (λi _=>by have:=Iz ⟨ln x i,CV x i⟩;simp only at this;omega) i hi
theorem Oq (w b:Nat) (hw:w<18446744073709551616) (hb:b<256) :
 (18446744073709551615-((((w ^^^ rep b) &&& 9187201950435737471)+9187201950435737471) ||| (w ^^^ rep b))) &&& 9259542123273814144=bQ (aU w b):=by
 have hx:w ^^^ rep b<18446744073709551616:=Nat.xor_lt_two_pow (n:=64) hw (Nv b hb)
 have hs:((w ^^^ rep b) &&& 9187201950435737471)+9187201950435737471<18446744073709551616:=by
  have:(w ^^^ rep b) &&& 9187201950435737471<=9187201950435737471:=Nat.and_le_right;omega
 have ho:=Nat.or_lt_two_pow (n:=64) hs hx;refine JV (Nat.lt_of_le_of_lt Nat.and_le_right (by decide)) (Bi _) λi hi=>?_;rw [JE,Ig,oG 128 i (by decide) hi,NN _ i ho hi,acE,SX _ i hi];have:=Ri ⟨ln (w ^^^ rep b) i,CV _ i⟩;have hxe:ln (w ^^^ rep b) i=ln w i ^^^ b:=by rw [adN,oG b i hb hi]
 simp only at this;rw [this];simp only [hxe];unfold aU;by_cases h:ln w i=b
 . rw [h];simp
 . have:ln w i ^^^ b≠0:=λe=>h (by
    have h2:(ln w i ^^^ b) ^^^ b=0 ^^^ b:=by rw [e]
    simpa [Nat.xor_assoc] using h2)
   simp [h,this]
def fB (w i b:Nat):Nat:=Gz (λk=>if k=i then b else ln w k)
theorem Jn (w i b:Nat) (hb:b<256):∀k,k<8->(if k=i then b else ln w k)<256:=λk _=>by split <;> first|exact hb|exact CV _ _
theorem QC (w i b:Nat) (hb:b<256):fB w i b<18446744073709551616:=JB _ (Jn w i b hb)
theorem jJ (w i b k:Nat) (hb:b<256) (hk:k<8):ln (fB w i b) k=if k=i then b else ln w k:=Cc _ (Jn w i b hb) k hk
theorem aaB (c i:Nat) (hi:i<8):c*2 ^ (8*i)=Gz (λk=>if k=i then c else 0):=by
 rcases lt8 hi with rfl|rfl|rfl|rfl|rfl|rfl|rfl|rfl <;> simp [Gz] <;> omega
theorem Q7 (c i:Nat) (hc:c<256) (hi:i<8):c*2 ^ (8*i)<18446744073709551616:=by
 rw [aaB c i hi];exact JB _ λk _=>by split <;> omega
theorem acF (c i k:Nat) (hc:c<256) (hi:i<8) (hk:k<8):ln (c*2 ^ (8*i)) k=if k=i then c else 0:=by
 rw [aaB c i hi,Cc _ (λk _=>by split <;> omega) k hk]
theorem ae4:∀x:Fin 256,x.val &&& 255=x.val:=by decide +kernel
theorem Uj (m i b:Nat) (hm:m<18446744073709551616) (hi:i<8) (hb:b<256) :
 (m &&& (18446744073709551615-255*2 ^ (8*i))) ||| (b*2 ^ (8*i))=fB m i b:=by
 have hlt:(m &&& (18446744073709551615-255*2 ^ (8*i)))<18446744073709551616:=Nat.lt_of_le_of_lt Nat.and_le_left hm;refine JV (Nat.or_lt_two_pow (n:=64) hlt (Q7 b i hb hi)) (Jn m i b hb) λk hk=>?_;rw [acE,JE,NN _ _ (Q7 255 i (by decide) hi) hk,acF 255 i k (by decide) hi hk,acF b i k hb hi hk];split
 . simp
 . have:=ae4 ⟨ln m k,CV m k⟩;simpa using this
theorem Ql (a:Nat) (ha:a<18446744073709551616):(BitVec.ofInt 64 (a:Int)).toNat=a:=by
 rw [BitVec.ofInt_natCast,BitVec.toNat_ofNat];exact Nat.mod_eq_of_lt (by omega)
theorem kW (a b:Nat) (ha:a<18446744073709551616) (hb:b<18446744073709551616) :
 bits .andNot .u64 (a:Int) (b:Int)=((a &&& (18446744073709551615-b):Nat):Int):=by
 show IntKind.u64.wrap ((BitVec.ofInt 64 (a:Int) &&& ~~~ BitVec.ofInt 64 (b:Int)).toNat:Int)=_
 rw [BitVec.toNat_and,BitVec.toNat_not,Ql a ha,Ql b hb];have h:2 ^ 64-1-b=18446744073709551615-b:=by omega
 rw [h];have hle:a &&& (18446744073709551615-b)<=a:=Nat.and_le_left;rw [IntWalk.u64_in _ (by omega)]
theorem nU (a:Nat) (ha:a<18446744073709551616):bits .xor .u64 IntKind.u64.max (a:Int)=((18446744073709551615-a:Nat):Int):=by
 show IntKind.u64.wrap ((BitVec.ofInt 64 IntKind.u64.max ^^^ BitVec.ofInt 64 (a:Int)).toNat:Int)=_
 have h:BitVec.ofInt 64 IntKind.u64.max ^^^ BitVec.ofInt 64 (a:Int) = ~~~ BitVec.ofInt 64 (a:Int):=by
  have:BitVec.ofInt 64 IntKind.u64.max=BitVec.allOnes 64:=by decide
  rw [this,BitVec.allOnes_xor]
 rw [h,BitVec.toNat_not,Ql a ha];have h2:2 ^ 64-1-a=18446744073709551615-a:=by omega
 rw [h2,IntWalk.u64_in _ (by omega)]
theorem Qm (a:Nat) (ha:a<18446744073709551616):bits .and .u64 (a:Int) 9259542123273814144=((bQ (fF a):Nat):Int):=by
 have:=bits_and_u64_nat a 9259542123273814144 ha (by decide);rw [Sv a ha] at this;exact this
theorem Ot (m b:Nat) (hm:m<18446744073709551616) (hb:b<256) :
 bits .and .u64 (bits .xor .u64 IntKind.u64.max (bits .or .u64 (IntKind.u64.wrap (bits .andNot .u64 (bits .xor .u64 (m:Int) ((rep b:Nat):Int)) 9259542123273814144+9187201950435737471)) (bits .xor .u64 (m:Int) ((rep b:Nat):Int)))) 9259542123273814144=((bQ (aU m b):Nat):Int):=by
 have hx:m ^^^ rep b<18446744073709551616:=Nat.xor_lt_two_pow (n:=64) hm (Nv b hb);rw [bits_xor_u64_nat m (rep b) hm (Nv b hb)];have e1:bits .andNot .u64 ((m ^^^ rep b:Nat):Int) 9259542123273814144=(((m ^^^ rep b) &&& 9187201950435737471:Nat):Int):=kW _ 9259542123273814144 hx (by decide);have hle:(m ^^^ rep b) &&& 9187201950435737471<=9187201950435737471:=Nat.and_le_right;rw [e1,IntWalk.u64_in _ (by omega)];have hs:((m ^^^ rep b) &&& 9187201950435737471)+9187201950435737471<18446744073709551616:=by omega
 have e2:=bits_or_u64_nat (((m ^^^ rep b) &&& 9187201950435737471)+9187201950435737471) (m ^^^ rep b) hs hx;rw [show ((((m ^^^ rep b) &&& 9187201950435737471:Nat):Int)+9187201950435737471)=((((m ^^^ rep b) &&& 9187201950435737471)+9187201950435737471:Nat):Int) by omega,e2];have ho:=Nat.or_lt_two_pow (n:=64) hs hx;rw [nU _ ho];have e3:=bits_and_u64_nat (18446744073709551615-((((m ^^^ rep b) &&& 9187201950435737471)+9187201950435737471) ||| (m ^^^ rep b))) 9259542123273814144 (by omega) (by decide);rw [Oq m b hm hb] at e3;exact e3
theorem Rl (m i b:Nat) (hm:m<18446744073709551616) (hi:i<8) (hb:b<256) :
 bits .or .u64 (bits .andNot .u64 (m:Int) (IntKind.u64.wrap (255*2 ^ (8*(i:Int)).toNat))) (IntKind.u64.wrap (IntKind.u64.wrap (b:Int)*2 ^ (8*(i:Int)).toNat))=((fB m i b:Nat):Int):=by
 have e0:(8*(i:Int)).toNat=8*i:=by omega
 have l1:=Q7 255 i (by decide) hi;have l2:=Q7 b i hb hi;have c1:(255*2 ^ (8*i):Int)=((255*2 ^ (8*i):Nat):Int):=by rw [Int.natCast_mul,Int.natCast_pow];rfl
 have c2:((b:Int)*2 ^ (8*i))=((b*2 ^ (8*i):Nat):Int):=by rw [Int.natCast_mul,Int.natCast_pow];rfl
 rw [e0,IntWalk.u64_in (b:Int) (by omega),c1,c2,IntWalk.u64_in _ (by omega),IntWalk.u64_in _ (by omega),kW m _ hm l1];have hlt:(m &&& (18446744073709551615-255*2 ^ (8*i)))<18446744073709551616:=Nat.lt_of_le_of_lt Nat.and_le_left hm;rw [bits_or_u64_nat _ _ hlt l2,Uj m i b hm hi hb]
theorem abC (m i:Nat):(m:Int) / 2 ^ (8*i) % 256=((ln m i:Nat):Int):=by unfold ln;rw [Int.natCast_emod,Int.natCast_ediv,Int.natCast_pow];rfl
open Go.RowKit
theorem wide_depth:(Fence.wide.depth.isSome=true)=False:=by simp [Fence.wide]
theorem round_depth (l:Nat):((Fence.wide.inRound l).depth.isSome=true)=False:=by simp [Fence.wide,Fence.inRound]
theorem wide_fn (f:Nat):Fence.wide.fn f=True:=by simp [Fence.wide]
theorem round_fn (l f:Nat):(Fence.wide.inRound l).fn f=True:=by simp [Fence.wide,Fence.inRound]
def Same (S:Nat->Prop) (W W':World):Prop := ∀b,S b->W'.heap[b]?=W.heap[b]?
theorem Same.refl (S:Nat->Prop) (W:World):Same S W W:=λ_ _=>rfl
theorem Same.trans {S:Nat->Prop} {A B C:World} (h:Same S A B) (k:Same S B C):Same S A C:=λb hb=>(k b hb).trans (h b hb)
theorem Same.of_below {S:Nat->Prop} {n:Nat} {W W':World} (h:Below n W W') (hS:∀b,S b->b<n):Same S W W':=λb hb=>h.block b (hS b hb)
theorem Same.cell {S:Nat->Prop} {W W':World} (h:Same S W W') {a:Addr} (ha:S a.block):W'.cell? a=W.cell? a:=World.cell?_of_block (h _ ha)
theorem Same.putObj {S:Nat->Prop} {W:World} {l:Nat} (o':Obj) (hl:¬S l):Same S W (W.putObj l o'):=λb hb=>World.putObj_heap_other (λe=>hl (e▸hb))
theorem Same.setCell {S:Nat->Prop} {W:World} {a:Addr} (v:Value) (ha:¬S a.block):Same S W (W.setCell a v):=λb hb=>Below.heap_setCell W a v b (λe=>ha (e▸hb))
theorem Same.alloc {S:Nat->Prop} {W:World} (o:Obj) (hS:∀b,S b->b<W.heap.size):Same S W (W.alloc o):=λb hb=>Below.heap_alloc W o b (hS b hb)
def ng (P:Program) (g:Nat) (lb:Array Value) (encs:Nat->Array Value) (N:Nat) (S:Nat->Prop) (w:World):Prop :=
 ∀ (l:Nat) (J:Nat->World->Prop) (Jx:World->Prop) (W:World),Same S w W->
  (∀i A B,J i A->A.grownBy B none->J i B)->
  (∀i W1,i<N->J i W1->Same S W W1->YieldAt Fence.wide 0 P l (encs i) W1 λe W' =>
   (e = .returned (.bool true)/\J (i+1) W'/\Same S W1 W')\/(e = .returned (.bool false)/\Jx W'))->
  (∀A B,Jx A->A.grownBy B none->Jx B)->
  J 0 W->
  CallsIn Fence.wide 0 P g (#[.func (.yield l) #[] #[]] ++ lb) W λe W'=>(∃v,e = .returned v)/\(J N W'\/Jx W')
theorem ng.later {P:Program} {g:Nat} {lb:Array Value} {encs:Nat->Array Value} {N:Nat} {S:Nat->Prop} {w W:World} (h:ng P g lb encs N S w) (hb:Same S w W):ng P g lb encs N S W :=
 λl J Jx V hV=>h l J Jx V (hb.trans hV)
def roundEnd (B:Nat) (S:Nat->Prop) (I:Nat->World->Prop) (Ix:Code->World->Prop) (i:Nat) (W:World):Exit->Act->World->Prop
 | .normal,_,W'=>KeepsFrom B W W'/\Same S W W'/\I (i+1) W'
 | .ret,_,W'=>KeepsFrom B W W'/\Ix .ret W'
 | .exit id,_,W'=>KeepsFrom B W W'/\Ix (.exit id) W'
 | .goto t,_,W'=>KeepsFrom B W W'/\Ix (.goto t) W'
 | .panic _,_,_=>False
 | .outgrown,_,_=>False
theorem gP {m:Nat} {W:World} {l:Nat} {o:Obj} (o':Obj) (hB:m<=l) (hl:W.heap[l]?=some o):Below m W (W.putObj l o') :=
 (aM m W).grown (grownBy_putObj' W l o') (by have:=(Array.getElem?_eq_some_iff.1 hl).1;omega) (λk e=>by cases e;exact hB)
theorem rM {P:Program} {g:Operand} {ps:Array Tmp} {assign body:Code} {Q:Exit->Act->World->Prop} {a:Act} {w:World} {gf:Nat} {lb:Array Value} {encs:Nat->Array Value} {N:Nat} {S:Nat->Prop}
 (hg:a.eval g = .func (.func gf) #[] lb) (eg:∀args w,(callFunc gf args).run P w = .ok (.enter gf args) w)
 (hseq:ng P gf lb encs N S w) (hS:∀b,S b->b<w.heap.size) (hps:∀i,(encs i).size=ps.size)
 (I:Nat->World->Prop) (Ix:Code->World->Prop) (hI:OwnFrom w.heap.size I) (hIx:OwnFrom w.heap.size Ix) (h0:I 0 w) (Ax:Array Value->Nat->Act->World->Prop)
 (hassign:∀ (l i:Nat) (W:World) (K:Act->World->Prop),I i W->i<N->w.heap.size+2<=W.heap.size->(∀a₁ W1,KeepsFrom w.heap.size W W1->Same S W W1->I i W1->Ax a.tmps i a₁ W1->K a₁ W1)->
  assign.wpIn (Fence.wide.inRound l) 0 P (Exit.then K (λ_ _ _=>False)) { tmps:=(ps.zip (encs i)).foldl (λt (p,v)=>t.setIfInBounds p v) a.tmps,defers := []} W)
 (hAx:OwnFrom w.heap.size (λ(p:Nat×Act) W=>Ax a.tmps p.1 p.2 W))
 (hbody:∀ (l i:Nat) (a₁:Act) (W:World),I i W->i<N->w.heap.size+2<=W.heap.size->Ax a.tmps i a₁ W->body.wpIn (Fence.wide.inRound l) 0 P (roundEnd w.heap.size S I Ix i W) a₁ W)
 (hdone:∀ (D:Nat) (W:World),w.heap.size<=D->I N W->W.heap[D]?=some (.deferred (some []))->Q .normal { a with defers:={ target := .collected D,args := #[]} :: a.defers} W)
 (hstop:∀ (D:Nat) (c:Code) (W:World),w.heap.size<=D->Ix c W->W.heap[D]?=some (.deferred (some []))->c.wpIn Fence.wide 0 P Q { a with defers:={ target := .collected D,args := #[]} :: a.defers} W) :
 (Code.rangeFunc g ps assign body).wpIn Fence.wide 0 P Q a w:=by
 refine wpIn_rangeFunc ?_;intro fn hfn
 let rc:LoopState->Option Code->Loop:=λst pe=>{ state:=st,pending:=pe,fn,tmps:=a.tmps,params:=ps,assign,body,defers:=w.heap.size}
 obtain ⟨V,hV⟩:∃V,(w.alloc (.deferred (some []))).alloc (.loop (rc .ready none))=V:=⟨_,rfl⟩
 have sV:V.heap.size=w.heap.size+2:=by rw [<-hV];simp
 have rV:V.heap[w.heap.size+1]?=some (.loop (rc .ready none)):=by
  rw [<-hV];have:=World.alloc_heap_new (w.alloc (.deferred (some []))) (.loop (rc .ready none));rwa [World.size_alloc] at this
 have dV:V.heap[w.heap.size]?=some (.deferred (some [])):=by
  rw [<-hV];exact (Below.heap_alloc _ _ _ (by simp)).trans (World.alloc_heap_new w _)
 have bV:Below w.heap.size w V:=by rw [<-hV];exact ((aM _ w).alloc (aL _) _).alloc (by simp) _
 have nS:¬S (w.heap.size+1):=λh=>by have:=hS _ h;omega
 have iV:I 0 V:=by rw [<-hV];exact hI.alloc _ (hI.alloc _ h0)
 refine ⟨w.heap.size+1,[{ target := .collected w.heap.size,args := #[]}],V,{ target := .fn (.func gf) lb,args := #[.func (.yield (w.heap.size+1)) #[] #[]]},V,gf,
  #[.func (.yield (w.heap.size+1)) #[] #[]] ++ lb,V,?_,?_,?_,?_,λh=>by simp [Fence.wide] at h,?_⟩
 . rw [<-hV];exact run_enterLoop_outer _ _ _ _ _
 . simp only [resolve,hg];simp [go_sem]
 . intro f' _;trivial
 . simp [invoke,go_sem,eg]
 refine (hseq (w.heap.size+1)
  (λi W=>I i W/\W.heap[w.heap.size+1]?=some (.loop (rc .ready none))/\W.heap[w.heap.size]?=some (.deferred (some []))/\w.heap.size+2<=W.heap.size)
  (λW => ∃c,Ix c W/\W.heap[w.heap.size+1]?=some (.loop (rc .done (some c)))/\W.heap[w.heap.size]?=some (.deferred (some [])))
  V (Same.of_below bV hS) ?_ ?_ ?_ ⟨iV,rV,dV,by omega⟩).mono ?_
 . rintro i A B ⟨h1,h2,h3,h4⟩ hg'
   exact ⟨hI i A B none h1 hg' (λr e=>by cases e),(hg'.block _ (Array.getElem?_eq_some_iff.1 h2).1 (by simp)).trans h2,(hg'.block _ (Array.getElem?_eq_some_iff.1 h3).1 (by simp)).trans h3,qH h4 hg'.size⟩
 ·
  rintro i W hlt ⟨hi,hl,hk,hs⟩ hb1
  have hl':w.heap.size+1<W.heap.size:=(Array.getElem?_eq_some_iff.1 hl).1;have hy:=run_yield (P:=P) (args:=encs i) hl (hps i);refine ⟨fn,_,assign,body,hy,roundIn_of_wpIn hfn (hassign (w.heap.size+1) i W _ hi hlt hs ?_)⟩;intro a₁ W0 kf0 bl0 hi0 ajc;have hl0:W0.heap[w.heap.size+1]?=some (.loop (rc .ready none)):=kf0.same _ _ (by omega) hl rfl;have hk0:W0.heap[w.heap.size]?=some (.deferred (some [])):=kf0.same _ _ (aL _) hk rfl;have hz0:w.heap.size+1<W0.heap.size:=(Array.getElem?_eq_some_iff.1 hl0).1;refine ⟨_,run_beginRound hl0 rfl,?_⟩;obtain ⟨W2,hW2⟩:∃W2,W0.putObj (w.heap.size+1) (.loop { rc .ready none with state := .busy})=W2:=⟨_,rfl⟩
  have hl2:W2.heap[w.heap.size+1]?=some (.loop { rc .ready none with state := .busy}):=by rw [<-hW2];exact World.putObj_heap_same hz0
  have hk2:W2.heap[w.heap.size]?=some (.deferred (some [])):=by rw [<-hW2];exact (World.putObj_heap_other (by omega)).trans hk0
  have hs2:W2.heap.size=W0.heap.size:=by rw [<-hW2];simp
  have bl2:Same S W0 W2:=by rw [<-hW2];exact Same.putObj _ nS
  have hi2:I i W2:=by rw [<-hW2];exact hI.putObj _ hi0 (by omega) hl0 rfl
  have ha2:Ax a.tmps i a₁ W2:=by rw [<-hW2];exact hAx.putObj (s:=(i,a₁)) _ ajc (by omega) hl0 rfl
  show body.wpIn _ _ _ _ _ (W0.putObj (w.heap.size+1) (.loop { rc .ready none with state := .busy}))
  rw [hW2];refine wpIn_mono (hbody (w.heap.size+1) i a₁ W2 hi2 hlt (by omega) ha2) ?_
  have fin:∀ (jump:Option Code) (W3:World),KeepsFrom w.heap.size W2 W3->
   (Instr.endRound (w.heap.size+1) jump).run P W3 = .ok (.bool jump.isNone) (W3.putObj (w.heap.size+1) (.loop (rc (if jump.isNone then .ready else .done) jump)))/\
   W3.heap[w.heap.size+1]?=some (.loop { rc .ready none with state := .busy})/\
   (W3.putObj (w.heap.size+1) (.loop (rc (if jump.isNone then .ready else .done) jump))).heap[w.heap.size+1]?=some (.loop (rc (if jump.isNone then .ready else .done) jump))/\
   (W3.putObj (w.heap.size+1) (.loop (rc (if jump.isNone then .ready else .done) jump))).heap[w.heap.size]?=some (.deferred (some [])):=λjump W3 hk3=>by
   have hl3:=hk3.same _ _ (by omega) hl2 rfl;exact ⟨run_endRound (P:=P) jump hl3,hl3,World.putObj_heap_same (Array.getElem?_eq_some_iff.1 hl3).1,(World.putObj_heap_other (by omega)).trans (hk3.same _ _ (aL _) hk2 rfl)⟩
  rintro e a3 W3 hp
  cases e with
  | normal =>
   obtain ⟨hk3,hb3,hi3⟩:=hp;obtain ⟨hr,hl3,hl4,hk4⟩:=fin none W3 hk3;refine ⟨_,_,hr,.inl ⟨rfl,⟨hI.putObj _ hi3 (by omega) hl3 rfl,hl4,hk4,by have:=hk3.size;simp;omega⟩,?_⟩⟩;exact ((bl0.trans bl2).trans hb3).trans (Same.putObj _ nS)
  | ret =>
   obtain ⟨hk3,hi3⟩:=hp;obtain ⟨hr,hl3,hl4,hk4⟩:=fin (some .ret) W3 hk3;exact ⟨_,_,hr,.inr ⟨rfl,.ret,hIx.putObj _ hi3 (by omega) hl3 rfl,hl4,hk4⟩⟩
  | exit id =>
   obtain ⟨hk3,hi3⟩:=hp;obtain ⟨hr,hl3,hl4,hk4⟩:=fin (some (.exit id)) W3 hk3;exact ⟨_,_,hr,.inr ⟨rfl,.exit id,hIx.putObj _ hi3 (by omega) hl3 rfl,hl4,hk4⟩⟩
  | goto t =>
   obtain ⟨hk3,hi3⟩:=hp;obtain ⟨hr,hl3,hl4,hk4⟩:=fin (some (.goto t)) W3 hk3;exact ⟨_,_,hr,.inr ⟨rfl,.goto t,hIx.putObj _ hi3 (by omega) hl3 rfl,hl4,hk4⟩⟩
  | panic ch=>exact hp.elim
  | outgrown=>exact hp.elim
 . rintro A B ⟨c,h1,h2,h3⟩ hg'
   exact ⟨c,hIx c A B none h1 hg' (λr e=>by cases e),(hg'.block _ (Array.getElem?_eq_some_iff.1 h2).1 (by simp)).trans h2,(hg'.block _ (Array.getElem?_eq_some_iff.1 h3).1 (by simp)).trans h3⟩
 ·
  rintro e W2 ⟨⟨v,rfl⟩,(⟨hi,hl,hk,_⟩ | ⟨c,hi,hl,hk⟩)⟩
  . exact ⟨none,_,run_endLoop (P:=P) hl (by simp [rc]),hdone _ _ (aL _) (hI.putObj _ hi (by omega) hl rfl) ((World.putObj_heap_other (by omega)).trans hk)⟩
  . exact ⟨some c,_,run_endLoop (P:=P) hl (by simp [rc]),hstop _ c _ (aL _) (hIx.putObj _ hi (by omega) hl rfl) ((World.putObj_heap_other (by omega)).trans hk)⟩
open Go.RowKit
def af (W:World) (B:Nat) (T:TypeId) (c:Array Value):Prop:=W.heap[B]?=some (.cells c T (0,0))
theorem af.lt {W:World} {B:Nat} {T:TypeId} {c:Array Value} (h:af W B T c):B<W.heap.size:=(Array.getElem?_eq_some_iff.1 h).1
theorem af.cell {W:World} {B:Nat} {T:TypeId} {c:Array Value} (h:af W B T c) (j:Nat):W.cell? ⟨B,j,none⟩=c[j]?:=by simp [World.cell?,show W.heap[B]?=_ from h]
theorem af.frozen {W:World} {B:Nat} {T:TypeId} {c:Array Value} (h:af W B T c) (j:Nat):W.frozen? ⟨B,j,none⟩=false:=by simp [World.frozen?,show W.heap[B]?=_ from h]
theorem af.new (W:World) (T:TypeId) (c:Array Value):af (W.alloc (.cells c T)) W.heap.size T c:=World.alloc_heap_new W _
theorem af.aF {W:World} {T:TypeId} {c:Array Value} {B:Nat} (h:B=W.heap.size):af (W.alloc (.cells c T)) B T c:=by subst h;exact World.alloc_heap_new W _
theorem af.kept {W W':World} {row:Option Nat} {B:Nat} {T:TypeId} {c:Array Value} (h:af W B T c) (hg:W.grownBy W' row) (hne:some B≠row):af W' B T c:=(hg.block B h.lt hne).trans h
theorem af.alloc {W:World} {B:Nat} {T:TypeId} {c:Array Value} (h:af W B T c) (o:Obj):af (W.alloc o) B T c:=h.kept (World.grownBy_alloc W o none) (by simp)
theorem af.drew {W:World} {B:Nat} {T:TypeId} {c:Array Value} (h:af W B T c):af W.drew B T c:=h
theorem af.below {n:Nat} {W W':World} {B:Nat} {T:TypeId} {c:Array Value} (h:af W B T c) (hb:Below n W W') (hB:B<n):af W' B T c:=(hb.block B hB).trans h
theorem af.set {W:World} {B:Nat} {T:TypeId} {c:Array Value} (h:af W B T c) (j:Nat) (v:Value):af (W.setCell ⟨B,j,none⟩ v) B T (c.setIfInBounds j v):=by
 obtain ⟨hlt,hk⟩:=Array.getElem?_eq_some_iff.1 h;show (W.heap.modify B _)[B]?=_
 rw [Array.getElem?_eq_getElem (by rw [Array.size_modify];exact hlt),Array.getElem_modify_self,hk];rfl
theorem af.other {W:World} {B B':Nat} {T:TypeId} {c:Array Value} (h:af W B T c) (hne:B≠B') (j:Nat) (v:Value):af (W.setCell ⟨B',j,none⟩ v) B T c :=
 (Below.heap_setCell W ⟨B',j,none⟩ v B hne).trans h
theorem af.putObj {W:World} {B:Nat} {T:TypeId} {c:Array Value} (h:af W B T c) {l:Nat} (hne:B≠l) (o:Obj):af (W.putObj l o) B T c:=(World.putObj_heap_other hne).trans h
theorem af.boxed {W:World} {B:Nat} {T:TypeId} {v:Value} (h:af W B T #[v]):Boxed W B T v:=h
theorem mX {β:Type} (B:β->Nat) (T:β->TypeId) (c:β->Array Value):Own (λs W=>af W (B s) (T s) (c s)):=by
 intro s X Y row h hg hrow;refine h.kept hg λe=>?_;obtain ⟨o,ho,hc⟩:=hrow (B s) e.symm;rw [show X.heap[B s]?=_ from h] at ho;cases ho;cases hc
theorem Bb {β:Type} {I I':β->World->Prop} (h:Own I) (h':Own I'):Own (λs W=>I s W/\I' s W):=λs W W' row hs hg hr=>⟨h s W W' row hs.1 hg hr,h' s W W' row hs.2 hg hr⟩
theorem KX {β:Type} (p:β->Prop):Own (λs (_:World)=>p s):=λ_ _ _ _ hs _ _=>hs
def jB (w:World) (v:Value) (xs:List Int):Prop :=
 ∃a cap,v = .slice a xs.length cap/\(xs≠ []->∃b off,a=some ⟨b,off,none⟩/\∀i (h:i<xs.length),w.cell? ⟨b,off+i,none⟩=some (.int .i64 xs[i]))
theorem GN {w:World} {base:Nat} {e:TypeId} {v:Value} {n:Nat} {xs:List Int} (h:w.ownsRow base e 1 v n (xs.map (Value.int .i64))):jB w v xs:=by
 have hl:xs.length=n:=by have:=h.1;simpa using this
 rcases h.2 with ⟨rfl,h0⟩ | ⟨g,cap,cur,rfl,hb,hg,h1,h2,h3,h4⟩
 . subst h0;obtain rfl:xs = []:=by simpa using hl
   exact ⟨none,0,rfl,λh=>absurd rfl h⟩
 . subst hl;refine ⟨_,cap,rfl,λ_=>⟨g,0,rfl,λi hi=>?_⟩⟩;have:=h.cells (g:=g) rfl i (Value.int .i64 xs[i]) (by simp [hi]);simp only [Addr.add] at this;split at this
   . subst i;exact this
   . exact this
theorem jB.later {w w':World} {v:Value} {xs:List Int} (h:jB w v xs) (hb:Below w.heap.size w w'):jB w' v xs:=by
 obtain ⟨a,cap,rfl,hx⟩:=h;refine ⟨a,cap,rfl,λhne=>?_⟩;obtain ⟨b,off,rfl,hc⟩:=hx hne;exact ⟨b,off,rfl,λi hi=>(hb.cell (p:=⟨b,off+i,none⟩) (qx w ⟨b,off+i,none⟩ (hc i hi))).trans (hc i hi)⟩
section laws
variable {P:Program} {F:Fence} {n:Nat} {ops:Array Oper} {rest:List Oper} {o:Oper} {a:Act} {Q:Exit->Act->World->Prop} {w w':World} {v:Value}
theorem eU (hgd:o.guard=none) (hrun:(execOp a.eval o).run P w = .ok (.value v) w')
 (h:wpList P ops Q rest (a.put o.dst v) w'):wpList P ops Q (o :: rest) a w:=by
 refine wpList_plain hgd λK hK=>?_;unfold Oper.wp;rw [hrun];exact hK _ _ h
theorem gH (hgd:o.guard=none) (hrun:(execOp a.eval o).run P w = .ok .skip w')
 (h:wpList P ops Q rest (a.put o.dst undef) w'):wpList P ops Q (o :: rest) a w:=by
 refine wpList_plain hgd λK hK=>?_;unfold Oper.wp;rw [hrun];exact hK _ _ h
theorem Im {ρ:Operand->Value} {t:TypeId} (hop:o.op = .build t #[]) {d:TypeDesc} {Z:Value} (hu:P.underlying t=some d) (hd:(match d with | .array _ _=>true|_=>false)=true)
 (hz:∀w,(zeroValue t).run P w = .ok Z w) (he:∀w,∃s,(match d with | .array _ e=>(sizeOf e).run P w|_ => .ok 0 w) = .ok s w):(execOp ρ o).run P w = .ok (.value (.agg Z.cells)) w:=by
 cases d <;> simp at hd
 rename_i m e
 obtain ⟨s,hs⟩:=he w;simp only at hs;simp [execOp,hop,Instr.build,Sem.run_bind,hz,run_underlying hu,hs,Instr.fill,Result.andThen]
theorem Fj {ρ:Operand->Value} {t:TypeId} (hop:o.op = .alloc t) {Z:Value} (hz:∀w,(zeroValue t).run P w = .ok Z w) :
 (execOp ρ o).run P w = .ok (.value (.pointer (some ⟨w.heap.size,0,none⟩))) (w.alloc (.cells Z.cells t)):=by
 simp [execOp,hop,Instr.alloc,Sem.run_bind,hz,newVar,newRow,Result.andThen,run_newObj_alloc]
theorem fq {ρ:Operand->Value} {t:TypeId} {x y:Operand} (hop:o.op = .store t x y) {g:Nat} {cs cur:Array Value} {T:TypeId} (hx:ρ x = .pointer (some ⟨g,0,none⟩)) (hy:ρ y = .agg cs)
 (hg:af w g T cur) (hs:cs.size=cur.size) (hi:(sizeOf t).run P w = .ok cs.size w) (h1:∀v∈cs.toList,v.oneCell'=true) :
 (execOp ρ o).run P w = .ok .skip (w.setRow g cs):=by
 have h:=run_storeCells_at P g 0 T cs.toList 0 cur w hg (by simp [hs]) h1;simp only [Nat.add_zero,List.take_zero,List.nil_append,Nat.zero_add] at h;rw [List.drop_of_length_le (by simp [hs]),List.append_nil] at h;simp [execOp,hop,hx,hy,Instr.storeAt,Instr.sureAddr,storeVar,Sem.run_bind,hi,Value.cells,h,Result.andThen]
theorem Nl {W:World} {T:TypeId} {cur cs:Array Value} {g:Nat} (hg:g=W.heap.size):(W.alloc (.cells cur T)).setRow g cs=W.alloc (.cells cs T):=by
 subst hg;unfold World.setRow World.alloc;simp only
 congr 1
 apply Array.ext_getElem?
 intro k;simp only [Array.getElem?_modify,Array.getElem?_push];by_cases hk:k=W.heap.size
 . subst hk;simp
 . simp [hk,Ne.symm hk]
end laws
section ends
variable {P:Program} {F:Fence} {n:Nat} {fn:Func} {R:Ending->World->Prop} {tmps:Array Value} {W:World} {D:Nat}
theorem Bu {v:Value} (hK:W.heap[D]?=some (.deferred (some []))) (hr:(results fn tmps).run P (W.putObj D (.deferred none)) = .ok v (W.putObj D (.deferred none)))
 (hR:R (.returned v) (W.putObj D (.deferred none))) (e:Exit) (he:e = .ret\/e = .normal):bodyPostM F n P fn R e { tmps:=tmps,defers := [{ target:=Target.collected D,args := #[]}]} W:=by
 rcases he with rfl|rfl
 . exact ⟨by simp,.inl ⟨_,_,rfl,run_takeDeferred hK,⟨v,hr,hR⟩⟩⟩
 . exact ⟨by simp,.inl ⟨_,_,rfl,run_takeDeferred hK,⟨v,hr,hR⟩⟩⟩
theorem kE {p:Tmp} {ty:TypeId} {v:Value} {a:Addr} (hres:fn.results = #[.cell p ty]) (hp:tmps.getD p undef = .pointer (some a)) (hc:W.cell? a=some v) (hag:∀w,(isAgg ty).run P w = .ok false w) :
 (results fn tmps).run P W = .ok v W:=by
 have hp':tmps[p]?.getD undef = .pointer (some a):=by simpa using hp
 simp [results,hres,hp',asAddr,loadVar,Sem.run_bind,hag,Result.andThen,hc,go_sem]
end ends
open Go.RowKit
structure ah (X:Nat->Prop) (w w':World):Prop where
 os:w'.os=w.os
 tape:w'.tape=w.tape
 output:w'.output=w.output
 size:w.heap.size<=w'.heap.size
 block:∀k,k<w.heap.size->¬X k->w'.heap[k]?=w.heap[k]?
theorem ah.refl (X:Nat->Prop) (w:World):ah X w w:=⟨rfl,rfl,rfl,aL _,λ_ _ _=>rfl⟩
theorem ah.trans' {X Y:Nat->Prop} {a b c:World} (h:ah X a b) (k:ah Y b c) (hs:∀i,i<a.heap.size->Y i->X i):ah X a c :=
 ⟨k.os.trans h.os,k.tape.trans h.tape,k.output.trans h.output,qH h.size k.size,λi hi hx=>(k.block i (bM hi h.size) (λhy=>hx (hs i hi hy))).trans (h.block i hi hx)⟩
theorem ah.trans {X:Nat->Prop} {a b c:World} (h:ah X a b) (k:ah X b c):ah X a c:=h.trans' k (λ_ _ h=>h)
theorem ah.mono {X Y:Nat->Prop} {a b:World} (h:ah X a b) (hs:∀i,i<a.heap.size->X i->Y i):ah Y a b :=
 ⟨h.os,h.tape,h.output,h.size,λi hi hy=>h.block i hi (λhx=>hy (hs i hi hx))⟩
theorem ah.of_below {X:Nat->Prop} {w w':World} (h:Below w.heap.size w w'):ah X w w':=⟨h.os,h.tape,h.output,h.size,λk hk _=>h.block k hk⟩
theorem ah.au {X:Nat->Prop} {a b c:World} (h:ah X a b) (k:Below b.heap.size b c):ah X a c:=h.trans (ah.of_below k)
theorem ah.below {X:Nat->Prop} {n:Nat} {w w':World} (h:ah X w w') (hn:n<=w.heap.size) (hx:∀k,k<n->¬X k):Below n w w' :=
 ⟨h.os,h.tape,h.output,h.size,λk hk=>h.block k (bM hk hn) (hx k hk)⟩
theorem ah.alloc {X:Nat->Prop} {a w:World} (h:ah X a w) (o:Obj):ah X a (w.alloc o):=h.trans (ah.of_below ((aM _ w).alloc (aL _) o))
theorem ah.drew {X:Nat->Prop} {a w:World} (h:ah X a w):ah X a w.drew:=⟨h.os,h.tape,h.output,h.size,h.block⟩
theorem ah.drewN {X:Nat->Prop} {a w:World} (h:ah X a w) (n:Nat):ah X a (w.drewN n):=⟨h.os,h.tape,h.output,h.size,h.block⟩
theorem ah.setCell {X:Nat->Prop} {a w:World} (h:ah X a w) {p:Addr} (hp:X p.block\/a.heap.size<=p.block) (u:Value):ah X a (w.setCell p u) :=
 ⟨h.os,h.tape,h.output,by simpa [World.setCell] using h.size,λk hk hx=>by
  rw [Below.heap_setCell _ _ _ _ (λe=>by
   rcases hp with hp|hp
   . exact hx (e▸hp)
   . omega)]
  exact h.block k hk hx⟩
theorem ah.set1 {B:Nat} {a w:World} (h:ah (λb=>b=B) a w) (off:Nat) (u:Value):ah (λb=>b=B) a (w.setCell ⟨B,off,none⟩ u):=h.setCell (.inl rfl) u
theorem ah.cell {X:Nat->Prop} {w w':World} (h:ah X w w') {p:Addr} (hp:p.block<w.heap.size) (hx:¬X p.block):w'.cell? p=w.cell? p:=World.cell?_of_block (w:=w) (h.block _ hp hx)
theorem ah.cells {X:Nat->Prop} {w w':World} (h:ah X w w'):∀b o,b<w.heap.size->¬X b->w'.cell? ⟨b,o,none⟩=w.cell? ⟨b,o,none⟩:=λb o hb hx=>h.cell (p:=⟨b,o,none⟩) hb hx
theorem ah.keep {X:Nat->Prop} {w w':World} (h:ah X w w') {a:Addr} {v:Value} (hc:w.cell? a=some v) (hx:¬X a.block):w'.cell? a=some v:=(h.cell (qx _ _ hc) hx).trans hc
theorem af.aA {X:Nat->Prop} {w w':World} {B:Nat} {T:TypeId} {c:Array Value} (hb:af w B T c) (h:ah X w w') (hx:¬X B):af w' B T c:=(h.block B hb.lt hx).trans hb
theorem ah.bS {X:Nat->Prop} {w w':World} (h:ah X w.drew w'):ah X w w':=⟨h.os,h.tape,h.output,h.size,h.block⟩
theorem Below.bS {n:Nat} {w w':World} (h:Below n w.drew w'):Below n w w':=⟨h.os,h.tape,h.output,h.size,h.block⟩
theorem setRow_size (w:World) (g:Nat) (cs:Array Value):(w.setRow g cs).heap.size=w.heap.size:=by simp [World.setRow]
theorem setRow_other (w:World) (g:Nat) (cs:Array Value) {b:Nat} (h:b≠g):(w.setRow g cs).heap[b]?=w.heap[b]?:=by
 simp only [World.setRow,Array.getElem?_modify];rw [if_neg (by omega)]
theorem af.setRow {w:World} {g:Nat} {T:TypeId} {cur:Array Value} (h:af w g T cur) (cs:Array Value):af (w.setRow g cs) g T cs:=by
 obtain ⟨hlt,hk⟩:=Array.getElem?_eq_some_iff.1 h;show (w.heap.modify g _)[g]?=_
 rw [Array.getElem?_eq_getElem (by rw [Array.size_modify];exact hlt),Array.getElem_modify_self,hk]
theorem Below.setRow {n:Nat} {a w:World} (h:Below n a w) {g:Nat} (hg:n<=g) (cs:Array Value):Below n a (w.setRow g cs) :=
 h.trans ⟨rfl,rfl,rfl,by rw [setRow_size];exact aL _,λk hk=>setRow_other w g cs (by omega)⟩
theorem ah.setRow {X:Nat->Prop} {a w:World} (h:ah X a w) {g:Nat} (hp:X g\/a.heap.size<=g) (cs:Array Value):ah X a (w.setRow g cs) :=
 ⟨h.os,h.tape,h.output,by rw [setRow_size];exact h.size,λk hk hx=>by
  rw [setRow_other _ _ _ (λe=>by
   rcases hp with hp|hp
   . exact hx (e▸hp)
   . omega)]
  exact h.block k hk hx⟩
section
variable {P:Program} {w:World}
theorem oV {t:TypeId} {g:Nat} {T:TypeId} {cs:Array Value} {d:TypeDesc} (hu:P.underlying t=some d) (hd:(match d with | .struct _ | .array _ _=>true|_=>false)=true) (hg:af w g T cs) (hi:(sizeOf t).run P w = .ok cs.size w) :
 (loadVar t ⟨g,0,none⟩).run P w = .ok (.agg cs) w:=by
 have hag:(isAgg t).run P w = .ok true w:=by
  unfold isAgg;rw [Sem.run_bind,run_underlying hu w];cases d <;> simp_all
 have hl:(loadCells ⟨g,0,none⟩ cs.toList.length).run P w = .ok cs.toList.toArray w :=
  run_loadCells_list (P:=P) w ⟨g,0,none⟩ cs.toList (λj v hv=>by
   have:(⟨g,0,none⟩:Addr).add j=⟨g,j,none⟩:=by simp [Addr.add];intro e;exact e.symm
   rw [this,hg.cell];simpa using hv)
 simp only [Array.length_toList,Array.toArray_toList] at hl;simp [loadVar,Sem.run_bind,hag,hi,hl,Result.andThen]
theorem jM {ρ:Operand->Value} {o:Oper} {t:TypeId} {x:Operand} {g:Nat} {cs:Array Value} {T:TypeId} {d:TypeDesc} (hop:o.op = .load t x) (hx:ρ x = .pointer (some ⟨g,0,none⟩))
 (hu:P.underlying t=some d) (hd:(match d with | .struct _ | .array _ _=>true|_=>false)=true) (hg:af w g T cs) (hi:(sizeOf t).run P w = .ok cs.size w):(execOp ρ o).run P w = .ok (.value (.agg cs)) w:=by
 simp [execOp,hop,hx,Instr.loadAt,Instr.sureAddr,Sem.run_bind,oV hu hd hg hi,Result.andThen]
theorem pE {fn:Func} {tmps:Array Value} {p:Tmp} {t:TypeId} {g:Nat} {cs:Array Value} {T:TypeId} {d:TypeDesc} (hres:fn.results = #[.cell p t]) (hp:tmps.getD p undef = .pointer (some ⟨g,0,none⟩))
 (hu:P.underlying t=some d) (hd:(match d with | .struct _ | .array _ _=>true|_=>false)=true) (hg:af w g T cs) (hi:(sizeOf t).run P w = .ok cs.size w):(results fn tmps).run P w = .ok (.agg cs) w:=by
 have hp':tmps[p]?.getD undef = .pointer (some ⟨g,0,none⟩):=by simpa using hp
 simp [results,hres,hp',asAddr,Sem.run_bind,oV hu hd hg hi,Result.andThen]
end
end Go.Proofs.YtolhmibejhldkaaGreatDoor
namespace Go.Proofs.YtolhmibejhldkaaGreatDoor
open Go.RowKit
structure iT where
 direct:Nat
 ahead:Nat
 dst:Nat
 looks:Nat
 kind:Nat
def lV (l:List Nat):Nat:=l.foldl (λm i=>m ||| 2 ^ i) 0
theorem Sb (l:List Nat) (m i:Nat):(l.foldl (λm i=>m ||| 2 ^ i) m).testBit i=(m.testBit i || l.contains i):=by
 induction l generalizing m with
 | nil=>simp
 | cons x l ih =>
  rw [List.foldl_cons,ih,Nat.testBit_or,Nat.testBit_two_pow,List.contains_cons,Bool.or_assoc]
  congr 2
  rw [Bool.eq_iff_iff,decide_eq_true_iff,beq_iff_eq];exact eq_comm
theorem iM (l:List Nat) (i:Nat):(lV l).testBit i=l.contains i:=by rw [lV,Sb];simp
def bound (md:Region.Mode) (o:Oper):List Nat:=o.after.toList.filterMap λe=>if Region.binds md e then some e.on else none
def Mk (o:Oper):List Nat:=o.dst.toList
def jI (md:Region.Mode) (ops:Array Oper) (ns:Array iT):Bool :=
 ns.size == ops.size && (List.range ops.size).all λj=>match ops[j]?,ns[j]? with
  | some o,some n =>
   let b:=bound md o
   n.direct == lV b && b.all (· < ops.size) &&
   n.ahead == b.foldl (λm i=>m ||| 2 ^ i ||| (if i<j then (ns[i]?.map (·.ahead)).getD 0 else 0)) 0 &&
   n.dst == lV (Mk o) && n.looks == lV (o.looksAt ops)
  | _,_=>false
def ready (n:iT) (L j:Nat):Bool := !L.testBit j && (n.direct &&& L == n.direct)
def lq (n:iT) (loads j:Nat):Bool:=(loads &&& (n.ahead ||| 2 ^ j)) != loads
def J5 (x y:iT):Bool:=(x.dst &&& (y.looks ||| y.dst) == 0) && (y.dst &&& x.looks == 0)
def BV (ns:Array iT) (loads:Nat):List Nat->Nat->Bool
 | [],L=>(List.range ns.size).all λj=>L.testBit j
 | i :: rest,L=>match ns[i]? with
  | none=>false
  | some n=>ready n L i && (n.kind != 1 || loads.testBit i) &&
   (if n.kind<2 then (List.range ns.size).all λj=>j == i || L.testBit j || (match ns[j]? with|some m=>m.ahead.testBit i || J5 n m|none=>true)
    else (List.range ns.size).all λj=>j == i || match ns[j]? with|some m => !ready m L j|none=>true) &&
   (n.kind<3 || !lq n loads i) &&
   BV ns loads rest (L ||| 2 ^ i)
section
variable {P:Program} {ops:Array Oper} {Q:Exit->Act->World->Prop} {md:Region.Mode} {X:Nat->Prop}
def dJ (P:Program) (ops:Array Oper) (Q:Exit->Act->World->Prop) (X:Nat->Prop):List (Nat×Nat)->Act->World->Prop
 | [],a,w=>Q .normal a w
 | (i,k) :: rest,a,w =>
  if k=0 then ∃o v,ops[i]?=some o/\Yields P ops o v a/\dJ P ops Q X rest (a.put o.dst v) w
  else if k=1 then ∃o v,ops[i]?=some o/\YieldsIf P ops (ah X w) o v a/\dJ P ops Q X rest (a.put o.dst v) w
  else if k=2 then wpOp P ops Q i (λa' w'=>ah X w w'/\dJ P ops Q X rest a' w') a w
  else wpOp P ops Q i (dJ P ops Q X rest) a w
def lQ (P:Program) (ops:Array Oper) (ns:Array iT) (fl:Nat->Bool) (Q:Exit->Act->World->Prop) (X:Nat->Prop):Nat->Nat->Act->World->Prop
 | 0,L,a,w=>(∀j n,ns[j]?=some n->ready n L j=false)/\Q .normal a w
 | fuel+1,L,a,w =>
  ((∀j n,ns[j]?=some n->ready n L j=false)->Q .normal a w)/\
  ∀j n,ns[j]?=some n->ready n L j=true->wpOp P ops Q j (λa' w'=>(fl j=true->ah X w w')/\lQ P ops ns fl Q X fuel (L ||| 2 ^ j) a' w') a w
variable {ns:Array iT} {fl:Nat->Bool}
theorem sJ {L i j:Nat}:(L ||| 2 ^ i).testBit j=(L.testBit j || decide (i=j)):=by rw [Nat.testBit_or,Nat.testBit_two_pow]
theorem Dl {x L:Nat}:(x &&& L == x)=true↔∀i,x.testBit i=true->L.testBit i=true:=by
 rw [beq_iff_eq]
 constructor
 . intro h i hi;have:=congrArg (·.testBit i) h;simp only [Nat.testBit_and,hi,Bool.true_and] at this;exact this
 . intro h;apply Nat.eq_of_testBit_eq
   intro i;rw [Nat.testBit_and];cases hx:x.testBit i
   . simp
   . simp [h i hx]
theorem jq {n:iT} {L j:Nat}:ready n L j=true↔L.testBit j=false/\∀i,n.direct.testBit i=true->L.testBit i=true:=by
 simp only [ready,Bool.and_eq_true,Bool.not_eq_true',Dl]
theorem rX {n:iT} {L i j:Nat} (h:ready n L j=true) (hne:j≠i):ready n (L ||| 2 ^ i) j=true:=by
 rw [jq] at *
 refine ⟨by rw [sJ,h.1];simp [Ne.symm hne],λk hk=>by rw [sJ,h.2 k hk];rfl⟩
def lC (ns:Array iT) (L:Nat):Prop := ∀j n,ns[j]?=some n->L.testBit j=true->∀i,n.direct.testBit i=true->L.testBit i=true
theorem mW {L j:Nat} {n:iT} (hc:lC ns L) (hn:ns[j]?=some n) (hr:ready n L j=true):lC ns (L ||| 2 ^ j):=by
 intro k m hk hL i hi;rw [sJ] at hL ⊢;rw [jq] at hr;rcases Bool.or_eq_true _ _▸hL with h|h
 . rw [hc k m hk h i hi];rfl
 . have:j=k:=of_decide_eq_true h;subst this;rw [hn] at hk;cases hk;rw [hr.2 i hi];rfl
def J9 (ns:Array iT):Prop := ∀ (j:Nat) (n:iT),ns[j]?=some n->∀i,n.ahead.testBit i=true->n.direct.testBit i=true\/∃ (k:Nat) (m:iT),k<j/\ns[k]?=some m/\n.direct.testBit k=true/\m.ahead.testBit i=true
theorem J7 (ha:J9 ns) {L:Nat} (hc:lC ns L):∀ (j:Nat) (n:iT),ns[j]?=some n->(∀i,n.direct.testBit i=true->L.testBit i=true)->∀i,n.ahead.testBit i=true->L.testBit i=true:=by
 intro j
 induction j using Nat.strongRecOn with
 | ind j ih =>
  intro n hn hd i hi;rcases ha j n hn i hi with h | ⟨k,m,hk,hm,hdk,hmi⟩
  . exact hd i h
  . exact ih k hk m hm (λx hx=>hc k m hm (hd k hdk) x hx) i hmi
theorem kY {T:World->Prop} {i:Nat} {oi:Oper} {v:Value} (ha:J9 ns) (hsz:ns.size=ops.size) (hi:ops[i]?=some oi) (hsel:∀ (j:Nat) (o:Oper) cs b,ops[j]?=some o->o.op≠ .select cs b)
 (hQ:∀c a w,Q (.panic c) (a.put oi.dst v) w->Q (.panic c) a w) :
 ∀ (fuel L:Nat) (a:Act) (w:World),lC ns L->L.testBit i=false->
  (∀ (j:Nat) (n:iT) (oj:Oper),ns[j]?=some n->ops[j]?=some oj->j≠i->L.testBit j=false->n.ahead.testBit i=false->oi.apart ops oj=true/\∀u u',(fl j=true->ah X u u')->T u->T u')->
  (∀n,ns[i]?=some n->ready n L i=true)->YieldsIf P ops T oi v a->T w->
  lQ P ops ns fl Q X fuel (L ||| 2 ^ i) (a.put oi.dst v) w->lQ P ops ns fl Q X (fuel+1) L a w:=by
 intro fuel
 induction fuel with
 | zero =>
  intro L a w hc hLi hfree hr hy hT H;have hlt:i<ns.size:=by rw [hsz];exact (Array.getElem?_eq_some_iff.1 hi).1
  refine ⟨λh=>absurd (h i _ (Array.getElem?_eq_getElem hlt)) (by rw [hr _ (Array.getElem?_eq_getElem hlt)];simp),λj n hn hj=>?_⟩;by_cases hji:j=i
  . subst hji;exact hy.wpOp hi hT ⟨λ_=>ah.refl _ _,H⟩
  . have:=H.1 j n hn;rw [rX hj hji] at this;cases this
 | succ fuel ih =>
  intro L a w hc hLi hfree hr hy hT H;have hlt:i<ns.size:=by rw [hsz];exact (Array.getElem?_eq_some_iff.1 hi).1
  refine ⟨λh=>absurd (h i _ (Array.getElem?_eq_getElem hlt)) (by rw [hr _ (Array.getElem?_eq_getElem hlt)];simp),λj n hn hj=>?_⟩;by_cases hji:j=i
  . subst hji;exact hy.wpOp hi hT ⟨λ_=>ah.refl _ _,H⟩
  . have h1:=H.2 j n hn (rX hj hji);have hjl:j<ops.size:=by rw [<-hsz];exact (Array.getElem?_eq_some_iff.1 hn).1
    obtain ⟨oj,hoj⟩:∃oj,ops[j]?=some oj:=⟨_,Array.getElem?_eq_getElem hjl⟩
    have hjun:=(jq.1 hj).1
    have ad8:n.ahead.testBit i=false:=by
     cases hb:n.ahead.testBit i
     . rfl
     . have:=J7 ha hc j n hn (jq.1 hj).2 i hb;rw [hLi] at this;cases this
    obtain ⟨hap,hTj⟩:=hfree j n oj hn hoj hji hjun ad8;have h2:=wpOp_putIf hoj hap (λcs b=>hsel i oi cs b hi) (λcs b=>hsel j oj cs b hoj) hQ hy h1;refine wpOp_mono (λa' w' h3=>⟨h3.2.1,?_⟩) h2;have ajp:(L ||| 2 ^ j).testBit i=false:=by rw [sJ,hLi];simp [hji]
    refine ih (L ||| 2 ^ j) a' w' (mW hc hn hj) ajp (λk m ok hk hok hki hun hah=>hfree k m ok hk hok hki ?_ hah) (λm hm=>rX (hr m hm) (Ne.symm hji)) h3.1 (hTj w w' h3.2.1 hT) ?_
    . rw [sJ,Bool.or_eq_false_iff] at hun;exact hun.1
    . rw [show (L ||| 2 ^ j) ||| 2 ^ i=(L ||| 2 ^ i) ||| 2 ^ j by rw [Nat.or_assoc,Nat.or_comm (2 ^ j),<-Nat.or_assoc]];exact h3.2.2
theorem mJ {i:Nat} {fuel L:Nat} {a:Act} {w:World} (hi:i<ns.size)
 (hr:∀n,ns[i]?=some n->ready n L i=true) (ho:∀ (j:Nat) (n:iT),ns[j]?=some n->j≠i->ready n L j=false)
 (h:wpOp P ops Q i (λa' w'=>(fl i=true->ah X w w')/\lQ P ops ns fl Q X fuel (L ||| 2 ^ i) a' w') a w):lQ P ops ns fl Q X (fuel+1) L a w:=by
 refine ⟨λhn=>absurd (hn i _ (Array.getElem?_eq_getElem hi)) (by rw [hr _ (Array.getElem?_eq_getElem hi)];simp),λj n hn hj=>?_⟩;by_cases hji:j=i
 . subst hji;exact h
 . rw [ho j n hn hji] at hj;cases hj
theorem oC (h:jI md ops ns=true):ns.size=ops.size/\J9 ns/\
 (∀ (j:Nat) (n:iT) (o:Oper),ns[j]?=some n->ops[j]?=some o->n.direct=lV (bound md o)/\n.dst=lV (Mk o)/\n.looks=lV (o.looksAt ops)/\∀i∈bound md o,i<ops.size):=by
 simp only [jI,Bool.and_eq_true,beq_iff_eq,List.all_eq_true,List.mem_range] at h;obtain ⟨hs,hall⟩:=h
 have key:∀ (j:Nat) (n:iT) (o:Oper),ns[j]?=some n->ops[j]?=some o->(n.direct=lV (bound md o)/\(∀i∈bound md o,i<ops.size))/\
  n.ahead=(bound md o).foldl (λm i=>m ||| 2 ^ i ||| (if i<j then (ns[i]?.map (·.ahead)).getD 0 else 0)) 0/\n.dst=lV (Mk o)/\n.looks=lV (o.looksAt ops):=by
  intro j n o hn ho;have h1:=hall j (Array.getElem?_eq_some_iff.1 ho).1;simp only [hn,ho,Bool.and_eq_true,beq_iff_eq,List.all_eq_true,decide_eq_true_eq] at h1;obtain ⟨⟨⟨⟨a,b⟩,c⟩,d⟩,e⟩:=h1;exact ⟨⟨a,b⟩,c,d,e⟩
 refine ⟨hs,λj n hn i hi=>?_,λj n o hn ho=>⟨(key j n o hn ho).1.1,(key j n o hn ho).2.2.1,(key j n o hn ho).2.2.2,(key j n o hn ho).1.2⟩⟩;have hjl:j<ops.size:=by rw [<-hs];exact (Array.getElem?_eq_some_iff.1 hn).1
 obtain ⟨⟨hd,_⟩,ha,_,_⟩:=key j n _ hn (Array.getElem?_eq_getElem hjl);rw [ha] at hi
 have gen:∀ (l:List Nat) (m:Nat),(l.foldl (λm i=>m ||| 2 ^ i ||| (if i<j then (ns[i]?.map (·.ahead)).getD 0 else 0)) m).testBit i=true->
  m.testBit i=true\/i∈l\/∃ (k:Nat) (x:iT),k∈l/\k<j/\ns[k]?=some x/\x.ahead.testBit i=true:=by
  intro l
  induction l with
  | nil=>intro m h;exact .inl h
  | cons y l ih =>
   intro m h;rw [List.foldl_cons] at h;rcases ih _ h with h|h | ⟨k,x,hk,h1,h2,h3⟩
   . rw [Nat.testBit_or,sJ,Bool.or_eq_true,Bool.or_eq_true] at h;rcases h with (h|h)|h
     . exact .inl h
     . exact .inr (.inl (by simp [of_decide_eq_true h]))
     . split at h
       . rename_i hy
         cases hx:ns[y]? with
         | none=>simp [hx] at h
         | some x=>exact .inr (.inr ⟨y,x,by simp,hy,hx,by simpa [hx] using h⟩)
       . simp at h
   . exact .inr (.inl (by simp [h]))
   . exact .inr (.inr ⟨k,x,by simp [hk],h1,h2,h3⟩)
 rcases gen _ _ hi with h|h | ⟨k,x,hk,h1,h2,h3⟩
 . simp at h
 . exact .inl (by rw [hd,iM];simpa using h)
 . exact .inr ⟨k,x,h1,h2,by rw [hd,iM];simpa using hk,h3⟩
theorem and_zero {a b i:Nat} (h:a &&& b=0) (ha:a.testBit i=true):b.testBit i=false:=by
 have:=congrArg (·.testBit i) h;simpa [Nat.testBit_and,ha] using this
theorem Mx {x y:Oper} {m n:iT} (hm:m.dst=lV (Mk x)) (hm':m.looks=lV (x.looksAt ops)) (hn:n.dst=lV (Mk y)) (hn':n.looks=lV (y.looksAt ops))
 (h:J5 m n=true):x.apart ops y=true:=by
 simp only [J5,Bool.and_eq_true,beq_iff_eq] at h;obtain ⟨h1,h2⟩:=h
 have a1:∀d,x.dst=some d->¬ (y.looksAt ops).contains d=true/\y.dst≠some d:=λd hd=>by
  have hb:m.dst.testBit d=true:=by rw [hm,iM];simp [Mk,hd]
  have:=and_zero h1 hb;rw [Nat.testBit_or,Bool.or_eq_false_iff,hn,hn',iM,iM] at this;refine ⟨by rw [this.1];simp,λhy=>?_⟩;have h':=this.2;simp [Mk,hy] at h'
 have a2:∀d,y.dst=some d->¬ (x.looksAt ops).contains d=true:=λd hd=>by
  have hb:n.dst.testBit d=true:=by rw [hn,iM];simp [Mk,hd]
  have:=and_zero h2 hb;rw [hm',iM] at this;rw [this];simp
 unfold Oper.apart;rw [Bool.and_eq_true]
 constructor
 . cases hx:x.dst with
   | none=>rfl
   | some d =>
    have:=a1 d hx;simp only [Bool.and_eq_true,Bool.not_eq_true',bne_iff_ne,ne_eq];exact ⟨by simpa using this.1,this.2⟩
 . cases hy:y.dst with
   | none=>rfl
   | some d=>have:=a2 d hy;simpa using this
theorem Qw {o:Oper} {v:Value} {a:Act} (h:Yields P ops o v a):YieldsIf P ops (λ_=>True) o v a :=
 h.imp (λ⟨hw,hv⟩=>⟨hw,λw _=>hv w⟩) id
theorem ry {loads:Nat} (hn:jI md ops ns=true) (hsel:Region.noSelect ops=true) (hQ:∀c (a:Act) d v w,Q (.panic c) (a.put d v) w->Q (.panic c) a w) :
 ∀ (pl:List (Nat×Nat)) (L:Nat) (a:Act) (w:World),lC ns L->(∀x∈pl,∀n,ns[x.1]?=some n->n.kind=x.2)->BV ns loads (pl.map (·.1)) L=true->
  dJ P ops Q X pl a w->lQ P ops ns (λj=>match ns[j]? with|some n=>lq n loads j|none=>false) Q X pl.length L a w:=by
 obtain ⟨hsz,hah,Db⟩:=oC hn;have Lx:=Region.noSelect_spec hsel;intro pl
 induction pl with
 | nil =>
  intro L a w hc hk hp h;simp only [List.map_nil,BV,List.all_eq_true,List.mem_range] at hp;refine ⟨λj n hj=>?_,h⟩;have:=hp j (Array.getElem?_eq_some_iff.1 hj).1;simp [ready,this]
 | cons x pl ih =>
  intro L a w hc hk hp h;obtain ⟨i,k⟩:=x;simp only [List.map_cons,BV] at hp;cases hni:ns[i]? with
  | none=>simp [hni] at hp
  | some n =>
   have hkn:n.kind=k:=hk (i,k) (by simp) n hni;simp only [hni,Bool.and_eq_true] at hp;obtain ⟨⟨⟨⟨hr,hld⟩,hcase⟩,hfl⟩,hrest⟩:=hp;have hiL:=(jq.1 hr).1;have hil:i<ns.size:=(Array.getElem?_eq_some_iff.1 hni).1;have hr':∀m,ns[i]?=some m->ready m L i=true:=λm hm=>by rw [hni] at hm;cases hm;exact hr
   have hc':lC ns (L ||| 2 ^ i):=mW hc hni hr;have hk':∀x∈pl,∀n,ns[x.1]?=some n->n.kind=x.2:=λx hx=>hk x (by simp [hx])
   have hfree:n.kind<2->∀ (j:Nat) (m:iT) (oi oj:Oper),ns[j]?=some m->ops[i]?=some oi->ops[j]?=some oj->j≠i->L.testBit j=false->m.ahead.testBit i=false->oi.apart ops oj=true:=by
    intro hlt j m oi oj hm hoi hoj hji Vh hja;rw [if_pos hlt] at hcase;have:=List.all_eq_true.1 hcase j (List.mem_range.2 (Array.getElem?_eq_some_iff.1 hm).1);simp only [hm,Vh,hja,Bool.or_false,Bool.false_or,Bool.or_eq_true,beq_iff_eq,hji,false_or] at this;obtain ⟨_,d1,d2,_⟩:=Db i n oi hni hoi;obtain ⟨_,e1,e2,_⟩:=Db j m oj hm hoj;exact Mx d1 d2 e1 e2 this
   unfold dJ at h;by_cases k0:k=0
   . rw [if_pos k0] at h;obtain ⟨o,v,ho,hy,h⟩:=h
     exact kY (T:=λ_=>True) hah hsz ho Lx (λc a w=>hQ c a _ _ w) _ L a w hc hiL (λj m oj hm hoj hji Vh hja=>⟨hfree (by omega) j m o oj hm ho hoj hji Vh hja,λ_ _ _ _=>trivial⟩) hr' (Qw hy) trivial
      (ih _ _ _ hc' hk' hrest h)
   . rw [if_neg k0] at h;by_cases k1:k=1
     . rw [if_pos k1] at h;obtain ⟨o,v,ho,hy,h⟩:=h
       have hlb:loads.testBit i=true:=by
        rcases Bool.or_eq_true _ _▸hld with h'|h'
        . rw [bne_iff_ne] at h';exact absurd (hkn.trans k1) h'
        . exact h'
       refine kY (T:=ah X w) hah hsz ho Lx (λc a w=>hQ c a _ _ w) _ L a w hc hiL (λj m oj hm hoj hji Vh hja=>⟨hfree (by omega) j m o oj hm ho hoj hji Vh hja,λu u' hf hT=>hT.trans (hf ?_)⟩) hr' hy (ah.refl _ _)
        (ih _ _ _ hc' hk' hrest h)
       simp only [hm,lq,bne_iff_ne,ne_eq];intro e;have:=congrArg (·.testBit i) e;simp [Nat.testBit_and,Nat.testBit_or,hlb,hja,Nat.testBit_two_pow,hji] at this
     . rw [if_neg k1] at h
       have ho:∀ (j:Nat) (m:iT),ns[j]?=some m->j≠i->ready m L j=false:=by
        intro j m hm hji;by_cases h2:n.kind<2
        . exact absurd (by omega:k=0\/k=1) (by omega)
        . rw [if_neg h2] at hcase;have:=List.all_eq_true.1 hcase j (List.mem_range.2 (Array.getElem?_eq_some_iff.1 hm).1);simpa [hm,hji] using this
       by_cases k2:k=2
       . rw [if_pos k2] at h;exact mJ hil hr' ho (wpOp_mono (λa' w' h'=>⟨λ_=>h'.1,ih _ _ _ hc' hk' hrest h'.2⟩) h)
       . rw [if_neg k2] at h;refine mJ hil hr' ho (wpOp_mono (λa' w' h'=>⟨λhf=>?_,ih _ _ _ hc' hk' hrest h'⟩) h);have h3:¬n.kind<3:=by omega
         rw [hni] at hf;simp only [h3,decide_false,Bool.false_or,Bool.not_eq_true'] at hfl;simp only [hfl] at hf;cases hf
theorem rO (hn:jI md ops ns=true):∀ (fuel:Nat) (listed:Array Bool) (L:Nat) (a:Act) (w:World),(∀j,j<ops.size->listed[j]?=some (L.testBit j))->
 lQ P ops ns fl Q X fuel L a w->wpAny P md ops Q fuel listed a w:=by
 obtain ⟨hsz,hah,Db⟩:=oC hn
 have key:∀ (listed:Array Bool) (L:Nat),(∀j,j<ops.size->listed[j]?=some (L.testBit j))->∀j,j∈Region.ready md ops listed↔∃n,ns[j]?=some n/\ready n L j=true:=by
  intro listed L hl j;rw [mem_ready]
  constructor
  . rintro ⟨h0,o,ho,h1⟩
    have hjl:j<ops.size:=(Array.getElem?_eq_some_iff.1 ho).1;obtain ⟨n,Vf⟩:∃n,ns[j]?=some n:=⟨_,Array.getElem?_eq_getElem (by omega)⟩
    refine ⟨n,Vf,jq.2 ⟨?_,λi hi=>?_⟩⟩
    . simpa [hl j hjl] using h0
    . obtain ⟨hd,_,_,hb⟩:=Db j n o Vf ho;rw [hd,iM] at hi;have hi':i∈bound md o:=by simpa using hi
      have hil:=hb i hi';simp only [bound,List.mem_filterMap] at hi';obtain ⟨e,he,hb'⟩:=hi';split at hb'
      . rename_i hbd
        cases hb'
        have:=h1 e (by simpa using he) hbd;simpa [hl _ hil] using this
      . cases hb'
  . rintro ⟨n,Vf,hr⟩
    have hjl:j<ops.size:=by rw [<-hsz];exact (Array.getElem?_eq_some_iff.1 Vf).1
    obtain ⟨h0,h1⟩:=jq.1 hr;refine ⟨by simp [hl j hjl,h0],_,Array.getElem?_eq_getElem hjl,λe he hb=>?_⟩;obtain ⟨hd,_,_,hbl⟩:=Db j n _ Vf (Array.getElem?_eq_getElem hjl)
    have hm:e.on∈bound md ops[j]:=by
     simp only [bound,List.mem_filterMap];exact ⟨e,by simpa using he,by simp [hb]⟩
    have:=h1 e.on (by rw [hd,iM];simpa using hm);simp [hl _ (hbl _ hm),this]
 have agb:∀ (listed:Array Bool) (L:Nat),(∀j,j<ops.size->listed[j]?=some (L.testBit j))->(Region.ready md ops listed = []↔∀ (j:Nat) (n:iT),ns[j]?=some n->ready n L j=false):=by
  intro listed L hl;rw [List.eq_nil_iff_forall_not_mem]
  constructor
  . intro h j n Vf;cases hr:ready n L j
    . rfl
    . exact absurd ((key listed L hl j).2 ⟨n,Vf,hr⟩) (h j)
  . intro h j hj;obtain ⟨n,Vf,hr⟩:=(key listed L hl j).1 hj;rw [h j n Vf] at hr;cases hr
 intro fuel
 induction fuel with
 | zero=>intro listed L a w hl h;exact ⟨(agb listed L hl).2 h.1,h.2⟩
 | succ fuel ih =>
  intro listed L a w hl h;refine ⟨λhr=>h.1 ((agb listed L hl).1 hr),λj hj=>?_⟩;obtain ⟨n,Vf,hr⟩:=(key listed L hl j).1 hj;refine wpOp_mono (λa' w' h'=>ih _ _ a' w' (λk hk=>?_) h'.2) (h.2 j n Vf hr);rw [Array.getElem?_setIfInBounds,sJ];by_cases hjk:j=k
  . subst hjk;have:=hl j hk;have hs:j<listed.size:=(Array.getElem?_eq_some_iff.1 this).1;simp [hs]
  . simp [hjk,hl k hk]
theorem ag {id:Nat} {a:Act} {w:World} (X:Nat->Prop) (ns:Array iT) (loads:Nat) (pl:List (Nat×Nat)) (hm:P.follows .mixedOrders=true)
 (hn:jI .any ops ns=true) (hsel:Region.noSelect ops=true) (hlen:pl.length=ops.size) (hk:(pl.all λx=>(ns[x.1]?.map (·.kind)).getD x.2 == x.2)=true) (hp:BV ns loads (pl.map (·.1)) 0=true)
 (hQ:∀c (a:Act) d v w,Q (.panic c) (a.put d v) w->Q (.panic c) a w) (h:dJ P ops Q X pl a w.drew):(Code.region id ops true).wp P Q a w:=by
 refine wp_region_any hm ?_;rw [<-hlen];refine rO hn pl.length _ 0 a _ (λj hj=>?_) (ry hn hsel hQ pl 0 a w.drew (λj n _ h0=>by simp at h0) (λx hx n hxn=>?_) hp h)
 . rw [Array.getElem?_replicate];simp [hlen,hj]
 . have:=List.all_eq_true.1 hk x hx;simpa [hxn] using this
theorem bG {c:Code} {a:Act} {w:World} (h:∀W,W=w->c.wp P Q a W):c.wp P Q a w:=h w rfl
theorem aD {a:Act} {w:World} (h:Q .normal a w):dJ P ops Q X [] a w:=h
theorem Kw {i:Nat} {rest:List (Nat×Nat)} {o:Oper} {v:Value} {a:Act} {w:World} (ho:ops[i]?=some o) (hw:Region.wanted o (yielded ops a.tmps)=true)
 (hy:∀u,(execOp a.eval o).run P u = .ok (.value v) u) (h:dJ P ops Q X rest (a.put o.dst v) w):dJ P ops Q X ((i,0) :: rest) a w:=by
 unfold dJ;rw [if_pos rfl];exact ⟨o,v,ho,.inl ⟨hw,hy⟩,h⟩
theorem Uk {i k:Nat} {rest:List (Nat×Nat)} {o:Oper} {a:Act} {w:World} (ho:ops[i]?=some o) (hw:Region.wanted o (yielded ops a.tmps)=false)
 (h:dJ P ops Q X rest (a.put o.dst undef) w):dJ P ops Q X ((i,k) :: rest) a w:=by
 unfold dJ;split
 . exact ⟨o,undef,ho,.inr ⟨hw,rfl⟩,h⟩
 split
 . exact ⟨o,undef,ho,.inr ⟨hw,rfl⟩,h⟩
 split
 . unfold wpOp;simp only [ho,hw,Bool.false_eq_true,if_false];exact ⟨ah.refl _ _,h⟩
 . unfold wpOp;simp only [ho,hw,Bool.false_eq_true,if_false];exact h
theorem Kv {i:Nat} {rest:List (Nat×Nat)} {o:Oper} {v:Value} {a:Act} {w:World} (ho:ops[i]?=some o) (hw:Region.wanted o (yielded ops a.tmps)=true)
 (hy:∀u,ah X w u->(execOp a.eval o).run P u = .ok (.value v) u) (h:dJ P ops Q X rest (a.put o.dst v) w):dJ P ops Q X ((i,1) :: rest) a w:=by
 unfold dJ;rw [if_neg (by decide),if_pos rfl];exact ⟨o,v,ho,.inl ⟨hw,hy⟩,h⟩
theorem AZ {t:TypeId} {b off:Nat} {cs:List Value} {d:TypeDesc} {w:World} (hu:P.underlying t=some d) (hd:d.isRow=true) (hi:(P.info? t).map (·.size)=some cs.length)
 (hc:w.rangeAt b off cs):(Instr.loadAt t (.pointer (some ⟨b,off,none⟩))).run P w = .ok (.agg cs.toArray) w:=run_loadAt_mid (P:=P) w b off t cs d hc hu hd hi
theorem AY {t:TypeId} {p:Addr} {v:Value} {d:TypeDesc} {w:World} (hu:P.underlying t=some d) (hd:d.isRow=false) (hc:w.cell? p=some v) :
 (Instr.loadAt t (.pointer (some p))).run P w = .ok v w:=by
 have hag:(isAgg t).run P w = .ok false w:=by
  unfold isAgg;rw [Sem.run_bind,run_underlying hu w];cases d <;> simp_all [TypeDesc.isRow]
 simp [Instr.loadAt,Instr.sureAddr,loadVar,Sem.run_bind,hag,Result.andThen,hc]
def Bw (w:World) (b off:Nat):List Value->Prop
 | []=>True
 | c :: cs=>w.cell? ⟨b,off,none⟩=some c/\Bw w b (off+1) cs
theorem qi {w:World} {b:Nat}:∀ {cs:List Value} {off:Nat},Bw w b off cs->w.rangeAt b off cs:=by
 intro cs
 induction cs with
 | nil=>intro off _ j v h;simp at h
 | cons c cs ih =>
  intro off h j v hj;cases j with
  | zero=>simp at hj;subst hj;exact h.1
  | succ j=>have:=ih h.2 j v (by simpa using hj);rwa [show off+1+j=off+(j+1) by omega] at this
theorem Hq {w u:World} {b off:Nat} {cs:List Value} (h:w.rangeAt b off cs) (hu:ah X w u) (hX:¬X b):u.rangeAt b off cs:=λj v hj=>hu.keep (h j v hj) hX
theorem Rw {i:Nat} {rest:List (Nat×Nat)} {o:Oper} {v:Value} {a:Act} {w:World} {t:TypeId} {x:Operand} {p:Addr} {d:TypeDesc} (ho:ops[i]?=some o) (hw:Region.wanted o (yielded ops a.tmps)=true)
 (hop:o.op = .load t x) (hx:a.eval x = .pointer (some p)) (hu:P.underlying t=some d) (hd:d.isRow=false) (hc:w.cell? p=some v) (hX:¬X p.block)
 (h:dJ P ops Q X rest (a.put o.dst v) w):dJ P ops Q X ((i,1) :: rest) a w :=
 Kv ho hw (λu hc'=>by simp [execOp,hop,hx,Sem.run_bind,AY (P:=P) hu hd (hc'.keep hc hX),Result.andThen]) h
theorem Rv {i:Nat} {rest:List (Nat×Nat)} {o:Oper} (cs:List Value) {a:Act} {w:World} {t:TypeId} {x:Operand} {b off:Nat} {d:TypeDesc} (ho:ops[i]?=some o) (hw:Region.wanted o (yielded ops a.tmps)=true)
 (hop:o.op = .load t x) (hx:a.eval x = .pointer (some ⟨b,off,none⟩)) (hu:P.underlying t=some d) (hd:d.isRow=true) (hi:(P.info? t).map (·.size)=some cs.length) (hc:w.rangeAt b off cs) (hX:¬X b)
 (h:dJ P ops Q X rest (a.put o.dst (.agg cs.toArray)) w):dJ P ops Q X ((i,1) :: rest) a w :=
 Kv ho hw (λu hc'=>by simp [execOp,hop,hx,Sem.run_bind,AZ (P:=P) hu hd hi (Hq hc hc' hX),Result.andThen]) h
theorem adv {i:Nat} {rest:List (Nat×Nat)} {o:Oper} {a:Act} {w:World} (ho:ops[i]?=some o) (hw:Region.wanted o (yielded ops a.tmps)=true)
 (h:∀K:Act->World->Prop,Hid (∀a' w',ah X w w'->dJ P ops Q X rest a' w'->K a' w')->o.wp P a w K Q):dJ P ops Q X ((i,2) :: rest) a w:=by
 unfold dJ;rw [if_neg (by decide),if_neg (by decide),if_pos rfl];unfold wpOp;simp only [ho,hw,if_true];exact .inl (h _ (λ_ _ h1 h2=>⟨h1,h2⟩))
theorem Ul {i:Nat} {rest:List (Nat×Nat)} {o:Oper} {a:Act} {w:World} (ho:ops[i]?=some o) (hw:Region.wanted o (yielded ops a.tmps)=true)
 (h:∀K:Act->World->Prop,Hid (∀a' w',dJ P ops Q X rest a' w'->K a' w')->o.wp P a w K Q):dJ P ops Q X ((i,3) :: rest) a w:=by
 unfold dJ;rw [if_neg (by decide),if_neg (by decide),if_neg (by decide)];unfold wpOp;simp only [ho,hw,if_true];exact .inl (h _ (λ_ _ h=>h))
end
end Go.Proofs.YtolhmibejhldkaaGreatDoor
namespace Go.Proofs.YtolhmibejhldkaaGreatDoor
open Go.RowKit Go.Proofs
section
variable {P:Program} {ops:Array Oper} {Q:Exit->Act->World->Prop} {X:Nat->Prop} {i:Nat} {rest:List (Nat×Nat)} {o:Oper} {a:Act} {w:World}
theorem aC {a':Act} (h:dJ P ops Q X rest a' w) (e:a=a':=by first|(simp only [Act.put,List.setIfInBounds_toArray,List.set_cons_zero,List.set_cons_succ];rfl)|rfl):dJ P ops Q X rest a w:=e▸h
theorem aj {v:Value} {a':Act} (h:dJ P ops Q X rest a' w) (ho:ops[i]?=some o:=by simp only [List.getElem?_toArray,List.getElem?_cons_succ,List.getElem?_cons_zero];rfl) (hw:Region.wanted o (yielded ops a.tmps)=true:=by rfl)
 (hy:∀u,(execOp a.eval o).run P u = .ok (.value v) u:=by intro u;go_simp <;> with_reducible rfl) (e:a.put o.dst v=a':=by first|(simp only [Act.put,List.setIfInBounds_toArray,List.set_cons_zero,List.set_cons_succ];rfl)|rfl):dJ P ops Q X ((i,0) :: rest) a w:=Kw ho hw hy (e▸h)
theorem jS {v:Value} (h:dJ P ops Q X rest (a.put o.dst v) w) (ho:ops[i]?=some o:=by simp only [List.getElem?_toArray,List.getElem?_cons_succ,List.getElem?_cons_zero];rfl) (hw:Region.wanted o (yielded ops a.tmps)=true:=by rfl)
 (hy:∀u,(execOp a.eval o).run P u = .ok (.value v) u:=by intro u;go_simp <;> with_reducible rfl):dJ P ops Q X ((i,0) :: rest) a w:=Kw ho hw hy h
theorem jD {k:Nat} (h:dJ P ops Q X rest (a.put o.dst undef) w) (ho:ops[i]?=some o:=by simp only [List.getElem?_toArray,List.getElem?_cons_succ,List.getElem?_cons_zero];rfl) (hw:Region.wanted o (yielded ops a.tmps)=false:=by rfl):dJ P ops Q X ((i,k) :: rest) a w:=Uk ho hw h
theorem bW {v:Value} {t:TypeId} {x:Operand} {p:Addr} {d:TypeDesc} (hu:P.underlying t=some d) (h:dJ P ops Q X rest (a.put o.dst v) w) (ho:ops[i]?=some o:=by simp only [List.getElem?_toArray,List.getElem?_cons_succ,List.getElem?_cons_zero];rfl) (hw:Region.wanted o (yielded ops a.tmps)=true:=by rfl)
 (hop:o.op = .load t x:=by rfl) (hx:a.eval x = .pointer (some p):=by rfl) (hd:d.isRow=false:=by rfl) (hc:w.cell? p=some v:=by go_simp <;> with_reducible rfl) (hX:¬X p.block:=by first|exact id|assumption|(simp;done)|(simp;omega)):dJ P ops Q X ((i,1) :: rest) a w:=Rw ho hw hop hx hu hd hc hX h
theorem jR (cs:List Value) {t:TypeId} {x:Operand} {b off:Nat} {d:TypeDesc} (hu:P.underlying t=some d) (h:dJ P ops Q X rest (a.put o.dst (.agg cs.toArray)) w) (ho:ops[i]?=some o:=by simp only [List.getElem?_toArray,List.getElem?_cons_succ,List.getElem?_cons_zero];rfl) (hw:Region.wanted o (yielded ops a.tmps)=true:=by rfl)
 (hop:o.op = .load t x:=by rfl) (hx:a.eval x = .pointer (some ⟨b,off,none⟩):=by rfl) (hd:d.isRow=true:=by rfl) (hi:(P.info? t).map (·.size)=some cs.length:=by kernel_rfl) (hc:w.rangeAt b off cs:=by first|(with_reducible assumption)|(refine qi ?_;simp only [Bw];(repeat' (first|exact True.intro|apply And.intro));all_goals (go_simp <;> with_reducible rfl))) (hX:¬X b:=by first|exact id|assumption|(simp;done)|(simp;omega)):dJ P ops Q X ((i,1) :: rest) a w:=Rv cs ho hw hop hx hu hd hi hc hX h
theorem iK (h:∀K:Act->World->Prop,Hid (∀a' w',ah X w w'->dJ P ops Q X rest a' w'->K a' w')->o.wp P a w K Q) (ho:ops[i]?=some o:=by simp only [List.getElem?_toArray,List.getElem?_cons_succ,List.getElem?_cons_zero];rfl) (hw:Region.wanted o (yielded ops a.tmps)=true:=by rfl):dJ P ops Q X ((i,2) :: rest) a w:=adv ho hw h
theorem fA (h:∀K:Act->World->Prop,Hid (∀a' w',dJ P ops Q X rest a' w'->K a' w')->o.wp P a w K Q) (ho:ops[i]?=some o:=by simp only [List.getElem?_toArray,List.getElem?_cons_succ,List.getElem?_cons_zero];rfl) (hw:Region.wanted o (yielded ops a.tmps)=true:=by rfl):dJ P ops Q X ((i,3) :: rest) a w:=Ul ho hw h
end
end Go.Proofs.YtolhmibejhldkaaGreatDoor
namespace Go.Proofs.YtolhmibejhldkaaGreatDoor
open Go.RowKit Go.Proofs
theorem iX {K R:Act->World->Prop} {X:Nat->Prop} {b:Act} {w u:World} (hK:Hid (∀a' w',ah X w w'->R a' w'->K a' w')) (hc:ah X w u:=by first|(with_reducible exact ah.refl _ _)|(with_reducible assumption)|(refine ah.of_below ?_;with_reducible assumption)|(with_reducible exact (ah.refl _ _).alloc _)|(with_reducible exact (ah.refl _ _).drewN _)|(with_reducible exact (ah.refl _ _).drew)|exact ⟨rfl,rfl,rfl,aL _,λ_ _ _=>rfl⟩|exact (ah.refl _ _).setCell (.inl (.inl rfl)) _|exact (ah.refl _ _).setCell (.inl (.inr rfl)) _|exact ((ah.refl _ _).setCell (.inl (.inl rfl)) _).setCell (.inl (.inl rfl)) _|exact ((ah.refl _ _).setCell (.inl (.inr rfl)) _).setCell (.inl (.inr rfl)) _|exact ah.drew (ah.setCell ⟨rfl,rfl,rfl,aL _,λ_ _ _=>rfl⟩ (.inl (.inl rfl)) _)|exact ah.drew (ah.setCell ⟨rfl,rfl,rfl,aL _,λ_ _ _=>rfl⟩ (.inl (.inr rfl)) _)) (h:R b u):K b u:=hK.out _ _ hc h
theorem eQ {K R:Act->World->Prop} {X:Nat->Prop} {b:Act} {w u:World} (hK:Hid (∀a' w',ah X w w'->R a' w'->K a' w')) (hc:ah X w u:=by first|exact ah.lL _ _ _|(with_reducible exact ah.refl _ _)|(with_reducible assumption)|(refine ah.of_below ?_;with_reducible assumption)|(with_reducible exact (ah.refl _ _).alloc _)|(with_reducible exact (ah.refl _ _).drewN _)|(with_reducible exact (ah.refl _ _).drew)|exact ⟨rfl,rfl,rfl,aL _,λ_ _ _=>rfl⟩|exact (ah.refl _ _).setCell (.inl (.inl rfl)) _|exact (ah.refl _ _).setCell (.inl (.inr rfl)) _|exact ((ah.refl _ _).setCell (.inl (.inl rfl)) _).setCell (.inl (.inl rfl)) _|exact ((ah.refl _ _).setCell (.inl (.inr rfl)) _).setCell (.inl (.inr rfl)) _|exact ah.drew (ah.setCell ⟨rfl,rfl,rfl,aL _,λ_ _ _=>rfl⟩ (.inl (.inl rfl)) _)|exact ah.drew (ah.setCell ⟨rfl,rfl,rfl,aL _,λ_ _ _=>rfl⟩ (.inl (.inr rfl)) _)) (h:R b u):K b u:=hK.out _ _ hc h
theorem Dp {a b:Int} (h:a=b):Ending.returned (.int .u64 a) = .returned (.int .u64 b):=by rw [h]
theorem Ea (b:Nat) (hb:b<256) (w:World) :
 Calls Tryz.prog 187 #[.int .u8 (b:Int)] w λe w'=>e = .returned (.int .u64 ((rep b:Nat):Int))/\w=w':=by
 go_enter Tryz.func187,Tryz.ntmps187
 go_wp2;go_ret;exact ⟨Dp (by unfold rep;omega),rfl⟩
theorem pQ (m:Nat) (hm:m<18446744073709551616) (w:World) :
 Calls Tryz.prog 174 #[.int .u64 (m:Int)] w λe w'=>e = .returned (.int .u64 ((bQ (fF m):Nat):Int))/\w=w':=by
 go_enter Tryz.func174,Tryz.ntmps174
 go_wp2;go_ret;exact ⟨Dp (Qm m hm),rfl⟩
theorem Io (m b:Nat) (hm:m<18446744073709551616) (hb:b<256) (w:World) :
 Calls Tryz.prog 177 #[.int .u64 (m:Int),.int .u8 (b:Int)] w λe w'=>e = .returned (.int .u64 ((bQ (aU m b):Nat):Int))/\w=w':=by
 have hr:=Ea b hb;have he:=Ot m b hm hb;replace he:=aa he;go_enter Tryz.func177,Tryz.ntmps177
 go_wp2_with (go_at_call 187;refine (hr _).mono ?_;rintro e w' ⟨rfl,rfl⟩)
 go_ret;exact ⟨Dp he.out,rfl⟩
theorem acH (i:Int) (h0:0<=i) (h1:i<8) (w:World):Calls Tryz.prog 188 #[.int .i64 i] w λe w'=>e = .returned (.bool true)/\w=w':=by
 go_enter Tryz.func188,Tryz.ntmps188
 go_wp2;go_ret;exact ⟨rfl,rfl⟩
theorem abD (m i:Nat) (hm:m<18446744073709551616) (hi:i<8) (w:World) :
 Calls Tryz.prog 178 #[.int .u64 (m:Int),.int .i64 (i:Int)] w λe w'=>e = .returned (.tuple #[.int .u8 ((ln m i:Nat):Int),.bool true])/\w=w':=by
 have h0:(0:Int)<=i:=by omega
 have h1:(i:Int)<8:=by omega
 go_enter Tryz.func178,Tryz.ntmps178
 go_wp2_with (go_at_call 188;refine (acH _ h0 h1 _).mono ?_;rintro e w' ⟨rfl,rfl⟩)
 go_ret2;exact ⟨by rw [<-abC];rfl,rfl⟩
theorem aa2 (m i b:Nat) (hm:m<18446744073709551616) (hi:i<8) (hb:b<256) (w:World) :
 Calls Tryz.prog 190 #[.int .u64 (m:Int),.int .i64 (i:Int),.int .u8 (b:Int)] w λe w'=>e = .returned (.int .u64 ((fB m i b:Nat):Int))/\w.drewN 1=w':=by
 have h0:(0:Int)<=i:=by omega
 have h1:(i:Int)<8:=by omega
 have he:=Rl m i b hm hi hb;replace he:=aa he;go_enter Tryz.func190,Tryz.ntmps190
 go_wp2_with (go_at_call 188;refine (acH _ h0 h1 _).mono ?_;rintro e w' ⟨rfl,rfl⟩)
 refine ag (λ_=>False) #[⟨0,0,2^14,1,0⟩,⟨0,0,2^15,128,0⟩,⟨2,2,2^16,2^15,0⟩,⟨5,7,2^17,(2^14+2^16),0⟩,⟨0,0,2^18,4,0⟩,⟨16,16,2^19,2^18,0⟩,⟨0,0,2^20,128,0⟩,⟨96,112,2^21,(2^19+2^20),0⟩,⟨136,255,2^22,(2^17+2^21),0⟩,⟨511,511,64,2^22,0⟩] 0 [(0,0),(1,0),(2,0),(3,0),(4,0),(5,0),(6,0),(7,0),(8,0),(9,0)] (by kernel_rfl) (by kernel_rfl) (by kernel_rfl) (by kernel_rfl) (by kernel_rfl) (by kernel_rfl) (λc a d v w h=>by cases d <;> exact h) ?_;refine aj ?_;refine aj ?_;refine aj ?_;refine aj ?_;refine aj ?_;refine aj ?_;refine aj ?_;refine aj ?_;refine aj ?_;refine aj ?_;refine aD ?_;go_wp2;go_ret;exact ⟨Dp he.out,rfl⟩
open Go.RowKit
theorem run_equalIn_int {P:Program} {w:World} {d:Nat} {e:TypeId} {k j:IntKind} (h:P.underlying e=some (.int j)) (a b:Int):(Op.equalIn (d+1) e (.int k a) (.int k b)).run P w = .ok (a == b) w:=by
 simp [Op.equalIn,Sem.run_bind,run_underlying h,Result.andThen]
theorem AV {P:Program} {w:World} {e:TypeId} {d:TypeDesc} {cs:Array Value} {off:Nat} {v:Value} (h:P.underlying e=some d) (hd:(match d with | .struct _ | .array _ _=>false|_=>true)=true) (hc:cs[off]?=some v):(part e cs off).run P w = .ok v w:=by
 have hag:(isAgg e).run P w = .ok false w:=by
  unfold isAgg;rw [Sem.run_bind,run_underlying h w];cases d <;> simp_all
 simp [part,Sem.run_bind,hag,Result.andThen,hc]
theorem BR {P:Program} {w:World} {d:Nat} {e:TypeId} {k j:IntKind} (h:P.underlying e=some (.int j)) (xs ys:List Int) :
 ∀ (is:List Nat),(∀i∈is,i<xs.length/\i<ys.length)->(Op.eqItems (d+1) e 1 (xs.map (Value.int k)).toArray (ys.map (Value.int k)).toArray is).run P w = .ok (decide (∀i∈is,xs[i]?=ys[i]?)) w:=by
 intro is
 induction is with
 | nil=>intro _;simp [Op.eqItems]
 | cons i is ih =>
  intro hi;obtain ⟨h1,h2⟩:=hi i (by simp);have p1:(part e (xs.map (Value.int k)).toArray (i*1)).run P w = .ok (.int k xs[i]) w:=AV h rfl (by simp [h1]);have p2:(part e (ys.map (Value.int k)).toArray (i*1)).run P w = .ok (.int k ys[i]) w:=AV h rfl (by simp [h2]);simp only [Op.eqItems,Sem.run_bind,p1,p2,Result.andThen,run_equalIn_int h];by_cases hxy:xs[i]=ys[i]
  . simp only [hxy,beq_self_eq_true,Bool.not_true,Bool.false_eq_true,if_false];rw [ih (λj hj=>hi j (by simp [hj]))]
    congr 1
    simp [List.getElem?_eq_getElem h1,List.getElem?_eq_getElem h2,hxy]
  . have:(xs[i] == ys[i])=false:=by simpa using hxy
    simp only [this,Bool.not_false,if_true,Sem.run_pure]
    congr 1
    symm
    rw [decide_eq_false_iff_not];intro hall;have:=hall i (by simp);rw [List.getElem?_eq_getElem h1,List.getElem?_eq_getElem h2] at this;exact hxy (by simpa using this)
theorem Kz {P:Program} {w:World} {d:Nat} {t e:TypeId} {n:Nat} {i:TypeInfo} {k j:IntKind} (hu:P.underlying t=some (.array n e)) (hi:P.info? e=some i) (h:P.underlying e=some (.int j)) (hc:P.cellsOf e=1)
 (xs ys:List Int) (hx:xs.length=n) (hy:ys.length=n):(Op.equalIn (d+2) t (.agg (xs.map (Value.int k)).toArray) (.agg (ys.map (Value.int k)).toArray)).run P w = .ok (decide (xs=ys)) w:=by
 rw [run_equalIn_array w (d+1) _ _ hu hi,hc,BR h xs ys _ (λi hi=>by simp at hi;omega)]
 congr 1
 rw [decide_eq_decide]
 constructor
 . intro hall;apply List.ext_getElem?
   intro i;by_cases hin:i<n
   . exact hall i (by simpa using hin)
   . rw [List.getElem?_eq_none (by omega),List.getElem?_eq_none (by omega)]
 . rintro rfl i _;rfl
def iB (w:World):Prop := ∀j:Nat,j<64->w.cell? ⟨16,j,none⟩=some (.int .u8 ((Lib.deBruijn64tab.getD j 0:Nat):Int))
theorem iB.below {w w':World} (h:iB w) (hb:Below w.heap.size w w'):iB w':=λj hj=>(hb.cell (qx _ _ (h j hj))).trans (h j hj)
theorem adi (x a:Nat) (hx:x<18446744073709551616) (hx0:x≠0) (hlow:x &&& (18446744073709551616-x)=a) :
 IntKind.u64.wrap (bits BinOp.and IntKind.u64 (x:Int) (IntKind.u64.wrap (-(x:Int)))*285870213051353865) / 288230376151711744=((a*285870213051353865 % 18446744073709551616 / 288230376151711744:Nat):Int):=by
 have e1:IntKind.u64.wrap (-(x:Int))=((18446744073709551616-x:Nat):Int):=by rw [IntKind.wrap_u64];omega
 rw [e1,bits_and_u64_nat x _ hx (by omega),hlow,IntKind.wrap_u64];omega
theorem adj (x k:Nat) (hx:x<18446744073709551616) (hx0:x≠0) (hk:k<64) (hlow:x &&& (18446744073709551616-x)=2 ^ k) (w:World) (hT:iB w) :
 Calls Tryz.prog 175 #[.int .u64 (x:Int)] w λe w'=>e = .returned (.int .i64 (k:Int))/\w=w':=by
 obtain ⟨hi,htab⟩:=Lib.deBruijn64_at k hk;have key:=adi x _ hx hx0 hlow;obtain ⟨idx,hidx⟩:=dC (2 ^ k*285870213051353865 % 18446744073709551616 / 288230376151711744);rw [<-hidx] at hi htab key;have hcell:=hT idx hi;rw [htab] at hcell;have hz:((x:Int) == 0)=false:=by simp;omega
 have hi':(idx:Int)<64:=by omega
 clear hidx htab hT hlow hx0;go_enter Tryz.func175,Tryz.ntmps175
 go_wp2_with (simp only [key])
 go_ret;exact ⟨rfl,rfl⟩
def ku (f:Nat->Bool):Nat->Nat->Option Nat
 | 0,_=>none
 | n+1,k=>if f k then some k else ku f n (k+1)
def gN (f:Nat->Bool):Option Nat:=ku f 8 0
theorem pW (f:Nat->Bool):∀ (n k:Nat),match ku f n k with
 | none => ∀i,k<=i->i<k+n->f i=false
 | some j=>k<=j/\j<k+n/\f j=true/\∀i,k<=i->i<j->f i=false:=by
 intro n
 induction n with
 | zero=>intro k;simp [ku];intro i h1 h2;omega
 | succ n ih =>
  intro k;unfold ku;cases hk:f k
  . simp only [Bool.false_eq_true,if_false];have:=ih (k+1);cases hf:ku f n (k+1) with
    | none =>
     rw [hf] at this;intro i h1 h2;by_cases e:i=k
     . rw [e];exact hk
     . exact this i (by omega) (by omega)
    | some j =>
     rw [hf] at this;obtain ⟨a,b,c,d⟩:=this;refine ⟨by omega,by omega,c,λi h1 h2=>?_⟩;by_cases e:i=k
     . rw [e];exact hk
     . exact d i (by omega) h2
  . simp only [if_true];exact ⟨aL _,by omega,hk,λi h1 h2=>by omega⟩
theorem pV {f:Nat->Bool} (h:gN f=none):∀i,i<8->f i=false:=by
 have:=pW f 8 0;unfold gN at h;rw [h] at this;exact λi hi=>this i (by omega) (by omega)
theorem jw {f:Nat->Bool} {j:Nat} (h:gN f=some j):j<8/\f j=true/\∀i,i<j->f i=false:=by
 have:=pW f 8 0;unfold gN at h;rw [h] at this;exact ⟨by omega,this.2.2.1,λi hi=>this.2.2.2 i (by omega) hi⟩
theorem Er {f:Nat->Bool} (h:∀i,i<8->f i=false):bQ f=0:=by
 simp [bQ,Gz,h 0 (by omega),h 1 (by omega),h 2 (by omega),h 3 (by omega),h 4 (by omega),h 5 (by omega),h 6 (by omega),h 7 (by omega)]
theorem Ep {f:Nat->Bool} {j:Nat} (h:gN f=some j):∃m,bQ f=2 ^ (8*j+7)*(2*m+1):=by
 obtain ⟨hj,hf,hb⟩:=jw h
 have t:∀i,∃u,u<=1/\(if f i then 128 else 0)=128*u:=λi=>by
  cases f i
  . exact ⟨0,by omega,rfl⟩
  . exact ⟨1,by omega,rfl⟩
 have t':∀i,i<j->(if f i then 128 else 0)=0:=λi hi=>by rw [hb i hi];rfl
 have tj:(if f j then 128 else 0)=128:=by rw [hf];rfl
 obtain ⟨u1,_,e1⟩:=t 1;obtain ⟨u2,_,e2⟩:=t 2;obtain ⟨u3,_,e3⟩:=t 3;obtain ⟨u4,_,e4⟩:=t 4;obtain ⟨u5,_,e5⟩:=t 5;obtain ⟨u6,_,e6⟩:=t 6;obtain ⟨u7,_,e7⟩:=t 7;unfold bQ Gz;rcases lt8 hj with rfl|rfl|rfl|rfl|rfl|rfl|rfl|rfl
 . exact ⟨128*(u1+256*u2+65536*u3+16777216*u4+4294967296*u5+1099511627776*u6+281474976710656*u7),by simp only [tj,e1,e2,e3,e4,e5,e6,e7,Nat.reduceMul,Nat.reduceAdd,Nat.reducePow];omega⟩
 . exact ⟨128*(u2+256*u3+65536*u4+16777216*u5+4294967296*u6+1099511627776*u7),by simp only [tj,t' 0 (by omega),e2,e3,e4,e5,e6,e7,Nat.reduceMul,Nat.reduceAdd,Nat.reducePow];omega⟩
 . exact ⟨128*(u3+256*u4+65536*u5+16777216*u6+4294967296*u7),by simp only [tj,t' 0 (by omega),t' 1 (by omega),e3,e4,e5,e6,e7,Nat.reduceMul,Nat.reduceAdd,Nat.reducePow];omega⟩
 . exact ⟨128*(u4+256*u5+65536*u6+16777216*u7),by simp only [tj,t' 0 (by omega),t' 1 (by omega),t' 2 (by omega),e4,e5,e6,e7,Nat.reduceMul,Nat.reduceAdd,Nat.reducePow];omega⟩
 . exact ⟨128*(u5+256*u6+65536*u7),by simp only [tj,t' 0 (by omega),t' 1 (by omega),t' 2 (by omega),t' 3 (by omega),e5,e6,e7,Nat.reduceMul,Nat.reduceAdd,Nat.reducePow];omega⟩
 . exact ⟨128*(u6+256*u7),by simp only [tj,t' 0 (by omega),t' 1 (by omega),t' 2 (by omega),t' 3 (by omega),t' 4 (by omega),e6,e7,Nat.reduceMul,Nat.reduceAdd,Nat.reducePow];omega⟩
 . exact ⟨128*u7,by simp only [tj,t' 0 (by omega),t' 1 (by omega),t' 2 (by omega),t' 3 (by omega),t' 4 (by omega),t' 5 (by omega),e7,Nat.reduceMul,Nat.reduceAdd,Nat.reducePow];omega⟩
 . exact ⟨0,by simp only [tj,t' 0 (by omega),t' 1 (by omega),t' 2 (by omega),t' 3 (by omega),t' 4 (by omega),t' 5 (by omega),t' 6 (by omega),Nat.reduceMul,Nat.reduceAdd,Nat.reducePow]⟩
theorem BZ {f:Nat->Bool} {j:Nat} (h:gN f=some j):bQ f≠0/\bQ f &&& (18446744073709551616-bQ f)=2 ^ (8*j+7):=by
 obtain ⟨m,hm⟩:=Ep h;have hlt:=lW f;refine ⟨by rw [hm];exact Nat.ne_of_gt (Nat.mul_pos (Nat.two_pow_pos _) (by omega)),?_⟩;have:=Lib.and_neg 64 (8*j+7) m (by rw [<-hm];exact hlt);rw [<-hm] at this;exact this
theorem Oj (m:Nat) (hm:m<18446744073709551616) (h:gN (fF m)=none) (w:World) :
 Calls Tryz.prog 141 #[.int .u64 (m:Int)] w λe w'=>e = .returned (.int .i64 (-1))/\w=w':=by
 have hh:=pQ m hm;have h0:=Er (pV h);rw [h0] at hh;clear h h0;go_enter Tryz.func141,Tryz.ntmps141
 go_wp2_with (go_at_call 174;refine (hh _).mono ?_;rintro e w' ⟨rfl,rfl⟩)
 go_ret;exact ⟨rfl,rfl⟩
theorem Fb (m j:Nat) (hm:m<18446744073709551616) (h:gN (fF m)=some j) (w:World) (hT:iB w) :
 Calls Tryz.prog 141 #[.int .u64 (m:Int)] w λe w'=>e = .returned (.int .i64 (j:Int))/\w=w':=by
 have hh:=pQ m hm;obtain ⟨h1,h2⟩:=BZ h;have hj:=(jw h).1;have ht:=adj _ (8*j+7) (lW _) h1 (by omega) h2 w hT;obtain ⟨x,hx⟩:=dC (bQ (fF m));rw [<-hx] at hh ht h1;have hz:((x:Int) == 0)=false:=by simp;omega
 have hq:((8*j+7:Nat):Int) / 8=j:=by omega
 have hj':((8*j+7:Nat):Int)<=63:=by omega
 have hj2:(0:Int)<=((8*j+7:Nat):Int):=by omega
 generalize ((8*j+7:Nat):Int)=z at *
 clear h h1 h2 hx hm;go_enter Tryz.func141,Tryz.ntmps141
 go_wp2_with (first|(go_at_call 174;refine (hh _).mono ?_;rintro e w' ⟨rfl,rfl⟩)|(go_at_call 175;refine ht.mono ?_;rintro e w' ⟨rfl,rfl⟩))
 go_ret;exact ⟨by rw [<-hq];rfl,rfl⟩
attribute [local go_sem] Oper.semAt_some wide_depth round_depth wide_fn round_fn
def aI (f:Nat->Bool):List Nat:=(List.range 8).filter f
theorem jl {f:Nat->Bool} {k:Nat}:k∈aI f↔k<8/\f k=true:=by simp [aI]
theorem Li (f:Nat->Bool):(aI f).Pairwise (· < ·):=List.Pairwise.filter _ List.pairwise_lt_range
theorem Ew (f:Nat->Bool):(aI f).length<=8:=by
 have:=List.length_filter_le f (List.range 8);simpa [aI] using this
theorem lh {f g:Nat->Bool} (h:∀k,k<8->f k=g k):aI f=aI g:=by
 unfold aI;exact List.filter_congr λk hk=>h k (by simpa using hk)
def iy (f:Nat->Bool) (i:Nat) (k:Nat):Bool:=decide (k∈(aI f).drop i)
theorem Nt (f:Nat->Bool):∀k,k<8->iy f 0 k=f k:=by
 intro k hk;unfold iy;rw [List.drop_zero];cases h:f k
 . rw [decide_eq_false_iff_not,jl];simp [h]
 . rw [decide_eq_true_iff,jl];exact ⟨hk,h⟩
theorem Ij {f:Nat->Bool} {j:Nat} (hj:j<8) (hf:f j=true) (hb:∀i,i<j->f i=false):gN f=some j:=by
 cases h:gN f with
 | none=>have:=pV h j hj;rw [hf] at this;cases this
 | some i =>
  obtain ⟨h1,h2,h3⟩:=jw h;rcases Nat.lt_trichotomy i j with h'|h'|h'
  . rw [hb i h'] at h2;cases h2
  . rw [h']
  . rw [h3 j h'] at hf;cases hf
theorem drop_cons (f:Nat->Bool) (i:Nat) (hi:i<(aI f).length):(aI f).drop i=(aI f)[i] :: (aI f).drop (i+1):=List.drop_eq_getElem_cons hi
theorem QX (f:Nat->Bool) (i:Nat) (hi:i<(aI f).length):∀k∈(aI f).drop (i+1),(aI f)[i]<k:=by
 have h:=(Li f).drop (i:=i);rw [drop_cons f i hi,List.pairwise_cons] at h;exact h.1
theorem mM (f:Nat->Bool) (i:Nat) (hi:i<(aI f).length):gN (iy f i)=some (aI f)[i]:=by
 have hm:(aI f)[i]∈aI f:=List.getElem_mem hi;refine Ij (jl.1 hm).1 ?_ λk hk=>?_
 . unfold iy;rw [decide_eq_true_iff,drop_cons f i hi];exact List.mem_cons_self
 . unfold iy;rw [decide_eq_false_iff_not,drop_cons f i hi];intro h;rcases List.mem_cons.1 h with h|h
   . omega
   . have:=QX f i hi k h;omega
theorem D6 (f:Nat->Bool) (i:Nat) (hi:i<(aI f).length) (k:Nat):iy f (i+1) k=(iy f i k && decide (k≠(aI f)[i])):=by
 unfold iy;rw [Bool.eq_iff_iff,Bool.and_eq_true,decide_eq_true_iff,decide_eq_true_iff,decide_eq_true_iff,drop_cons f i hi]
 constructor
 . intro h;exact ⟨List.mem_cons_of_mem _ h,λe=>by have:=QX f i hi k h;omega⟩
 . rintro ⟨h1,h2⟩
   rcases List.mem_cons.1 h1 with h|h
   . exact absurd h h2
   . exact h
theorem Nu (f:Nat->Bool) (k:Nat):iy f (aI f).length k=false:=by
 unfold iy;simp
theorem pJ {f g:Nat->Bool} (h:∀k,k<8->f k=g k):bQ f=bQ g:=Ht λi hi=>by rw [h i hi]
theorem aaC (k m:Nat):(2 ^ k*(2*m+1)) &&& (2 ^ k*(2*m+1)-1)=2 ^ k*(2*m):=by
 have hp:0<2 ^ k:=Nat.two_pow_pos k;have e1:2 ^ k*(2*m+1)=2 ^ k*(2*m+1)+0:=rfl;have e2:2 ^ k*(2*m+1)-1=2 ^ k*(2*m)+(2 ^ k-1):=by rw [Nat.mul_add];omega
 have e3:2 ^ k*(2*m)=2 ^ k*(2*m)+0:=rfl;apply Nat.eq_of_testBit_eq
 intro j;rw [Nat.testBit_and,e2]
 conv=>lhs;rw [e1]
 conv=>rhs;rw [e3]
 rw [Nat.testBit_two_pow_mul_add _ hp,Nat.testBit_two_pow_mul_add _ (by omega),Nat.testBit_two_pow_mul_add _ hp];split
 . simp
 . cases hj:j-k with
   | zero=>simp
   | succ n =>
    rw [Nat.testBit_succ,Nat.testBit_succ];have d1:(2*m+1) / 2=m:=by omega
    have d2:2*m / 2=m:=by omega
    rw [d1,d2];simp
theorem Ia {f g:Nat->Bool} {j:Nat} (h:gN f=some j) (hg:∀k,k<8->g k=(f k && decide (k≠j))):bQ f &&& (bQ f-1)=bQ g:=by
 obtain ⟨hj,hf,_⟩:=jw h;obtain ⟨m,hm⟩:=Ep h
 have hs:bQ f=bQ g+2 ^ (8*j+7):=by
  have t:∀i,i<8->(if f i then 128 else 0)=(if g i then 128 else 0)+(if i=j then 128 else 0):=λi hi=>by
   rw [hg i hi];by_cases e:i=j
   . subst e;simp [hf]
   . cases f i <;> simp [e]
  have t0:=t 0 (by omega);have t1:=t 1 (by omega);have t2:=t 2 (by omega);have t3:=t 3 (by omega);have t4:=t 4 (by omega);have t5:=t 5 (by omega);have t6:=t 6 (by omega);have t7:=t 7 (by omega);unfold bQ Gz;simp only [t0,t1,t2,t3,t4,t5,t6,t7];rcases lt8 hj with rfl|rfl|rfl|rfl|rfl|rfl|rfl|rfl <;> simp <;> omega
 have e:2 ^ (8*j+7)*(2*m)=bQ g:=by
  have:2 ^ (8*j+7)*(2*m+1)=2 ^ (8*j+7)*(2*m)+2 ^ (8*j+7):=by rw [Nat.mul_add,Nat.mul_one]
  omega
 rw [hm,aaC,e]
theorem lX (f:Nat->Bool):∀k,k<8->fF (bQ f) k=f k:=by
 intro k hk;unfold fF;rw [Ev f k hk];cases f k <;> simp
theorem Sa (f:Nat->Bool) (i:Nat) (hi:i<(aI f).length):bits .and .u64 (bQ (iy f i):Int) (IntKind.u64.wrap ((bQ (iy f i):Int)-1))=((bQ (iy f (i+1)):Nat):Int):=by
 have h1:=mM f i hi;have hne:=(BZ h1).1;have hlt:=lW (iy f i);rw [show ((bQ (iy f i):Int)-1)=((bQ (iy f i)-1:Nat):Int) by omega,IntWalk.u64_in _ (by omega),bits_and_u64_nat _ _ hlt (by omega),Ia h1 λk _=>D6 f i hi k]
theorem Ns (f:Nat->Bool) (i:Nat) (hi:i<(aI f).length):gN (fF (bQ (iy f i)))=some (aI f)[i]:=by
 have h:=mM f i hi;obtain ⟨h1,h2,h3⟩:=jw h;exact Ij h1 ((lX _ _ h1).trans h2) λk hk=>(lX _ _ (by omega)).trans (h3 k hk)
theorem Ic (m:Int) (w:World) :
 Calls Tryz.prog 143 #[.int .u64 m] w λe w'=>e = .returned (.func (.func 176) #[] #[.pointer (some ⟨w.heap.size,0,none⟩)])/\w.alloc (.cells #[.int .u64 m] 38)=w':=by
 go_enter Tryz.func143,Tryz.ntmps143
 go_wp2;go_ret;exact ⟨rfl,rfl⟩
theorem Br (args:Array Value) (w:World):(callFunc 176 args).run Tryz.prog w = .ok (.enter 176 args) w :=
 enters_of Tryz.func176 (by kernel_rfl) rfl args w
def bT (f:Nat->Bool) (i:Nat):Nat:=(aI f).getD i 0
theorem CY (m:Nat) (hm:m<18446744073709551616) (B:Nat) (w:World) (hc:w.cell? ⟨B,0,none⟩=some (.int .u64 (m:Int))) (hT:iB w) :
 ng Tryz.prog 176 #[.pointer (some ⟨B,0,none⟩)] (λi => #[.int .i64 ((bT (fF m) i:Nat):Int)]) (aI (fF m)).length (λb=>b=B\/b=16) w:=by
 intro l J Jx W hW _ hY _ h0;have gc:∀W1,Same (λb=>b=B\/b=16) W W1->W1.cell? ⟨B,0,none⟩=some (.int .u64 (m:Int)):=λW1 h1=>((hW.trans h1).cell (a:=⟨B,0,none⟩) (Or.inl rfl)).trans hc;have gT:∀W1,Same (λb=>b=B\/b=16) W W1->iB W1:=λW1 h1 j hj=>((hW.trans h1).cell (a:=⟨16,j,none⟩) (Or.inr rfl)).trans (hT j hj);have cW:=gc W (Same.refl _ _);have hh:=pQ m hm;obtain ⟨f,hf⟩:=dC (fF m);rw [<-hf] at hY hh ⊢;rw [show bQ f=bQ (iy f 0) from (pJ (Nt f)).symm] at hh;have HN:=aa (Sa f);have HF:=aa (Ns f);have HL:=aa (Nu f);have hG:=aa gT;have hY':=aa hY;replace hh:=aa hh;clear gc gT hY hc hT hf;refine callsIn_of_wp Tryz.func176 rfl trivial ?_ rfl;simp only [Tryz.ntmps176,List.size_toArray,List.length_cons,List.length_nil,Nat.reduceAdd,Nat.reduceSub,Array.replicate_succ,Array.replicate_zero,List.push_toArray,List.append_toArray,List.nil_append,List.cons_append]
 gi_wp2_with (gi_at_call 174;refine (callsIn_wide.2 (hh.out _)).mono ?_;rintro e w' ⟨rfl,rfl⟩)
 gi_loopw [3] (λv3 wr => ∃k:Nat,k<=(aI f).length/\v3 = .int .u64 ((bQ (iy f k):Nat):Int)/\J k wr/\Same (λb=>b=B\/b=16) W wr)
  (λv3 _=>(intOf v3).toNat)
 case atStart=>exact ⟨0,o7 _,rfl,h0,Same.refl _ _⟩
 case round =>
  obtain ⟨k,hk,rfl,hJ,hB⟩:=hrel;by_cases hlt:k<(aI f).length
  . have hm':=HN.out k hlt;have hfi:=Fb _ _ (lW (iy f k)) (HF.out k hlt) wr (hG.out wr hB);obtain ⟨fn,tmps,assign,body,hy,hR⟩:=hY'.out k wr hlt hJ hB;have hne:=(BZ (mM f k hlt)).1;have hla:bT f k=(aI f)[k]:=by simp [bT,hlt]
    rw [<-hla] at hfi;have hz:((bQ (iy f k):Int) != 0)=true:=by simp;omega
    have hdec:bQ (iy f (k+1))<bQ (iy f k):=by
     have h1:=mM f k hlt;rw [<-Ia h1 λj _=>D6 f k hlt j];exact Nat.lt_of_le_of_lt Nat.and_le_right (by omega)
    replace hdec:=aa hdec;replace hla:=aa hla;replace hfi:=aa hfi
    gi_wp2_with (gi_at_call 141;refine (callsIn_wide.2 hfi.out).mono ?_;rintro e w' ⟨rfl,rfl⟩)
    refine hR.mono ?_;rintro e W' (⟨rfl,hJ',hB'⟩ | ⟨rfl,hx⟩)
    . gi_wp2
      go_roundw
      case rel=>exact ⟨k+1,by omega,by rfl,hJ',hB.trans hB'⟩
      case measure=>have:=hdec.out;simp [intOf];omega
    . gi_wp2
      refine bodyPost_ret (results_none rfl _ _ _) rfl ?_;exact ⟨⟨_,rfl⟩,.inr hx⟩
  . obtain rfl:k=(aI f).length:=by omega
    have hz:bQ (iy f (aI f).length)=0:=Er λi _=>HL.out i;rw [hz]
    gi_wp2
    go_end0
    exact ⟨⟨_,rfl⟩,.inl hJ⟩
end Go.Proofs.YtolhmibejhldkaaGreatDoor
namespace Go.Proofs.YtolhmibejhldkaaGreatDoor
open Go.RowKit Go.Proofs
def one (b:Bool):Nat:=if b then 1 else 0
def stages (v n:Nat):Prop :=
 (64*v) &&& 6148914691236517205=64*v/\(128*v) &&& 6148914691236517205=0/\(16*v) &&& 3689348814741910323=16*v/\(64*v) &&& 3689348814741910323=0/\
 (v+16*v) &&& 1085102592571150095=v/\(v+v / 256+(v+v / 256) / 65536+(v+v / 256+(v+v / 256) / 65536) / 4294967296) &&& 127=n
instance (v n:Nat):Decidable (stages v n):=by unfold stages;infer_instance
attribute [local go_sem] Oper.semAt_some wide_depth round_depth wide_fn round_fn
end Go.Proofs.YtolhmibejhldkaaGreatDoor
