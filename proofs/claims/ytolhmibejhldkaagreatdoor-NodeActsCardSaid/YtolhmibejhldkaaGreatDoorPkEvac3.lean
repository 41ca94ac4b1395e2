/- Joined texts; conditions within. -/
import Derived.Test.YtolhmibejhldkaaGreatDoorPkEvac2
set_option linter.unusedVariables false
set_option linter.unusedSimpArgs false
set_option maxRecDepth 100000
set_option maxHeartbeats 200000
namespace Go.Proofs.YtolhmibejhldkaaGreatDoor
open Go.RowKit Go.Proofs
def BP (f:Nat->Int):Nat->Int
 | 0=>0
 | n+1=>BP f n+f n
theorem DL {f g:Nat->Int}:∀ {n:Nat},(∀i,i<n->f i=g i)->BP f n=BP g n
 | 0,_=>rfl
 | n+1,h=>by unfold BP;rw [DL (n:=n) (λi hi=>h i (by omega)),h n (by omega)]
theorem Km {f:Nat->Int} {i:Nat} {v:Int}:∀ {n:Nat},i<n->BP (upd f i v) n=BP f n+(v-f i)
 | 0,h=>absurd h (by omega)
 | n+1,h=>by
  unfold BP;by_cases e:i=n
  . subst e;rw [upd_same,DL (f:=upd f i v) (g:=f) (λj hj=>ay _ _ (by omega))];omega
  . rw [Km (n:=n) (by omega),ay _ _ (by omega)];omega
section
variable {w w':World} {lo hi D:Nat} {T:ae} {L:Int}
theorem DX.take (h:DX w lo hi D T L) (hL:0<=L/\L<=1000000000) (i:Nat) (hi':i<T.n) :
 Calls Tryz.prog 132 #[.pointer (some ⟨D,0,none⟩),.int .i64 (i:Int)] w λe w' =>
  ∃v,e = .returned (.tuple #[v,.int .i64 0])/\w'.ownsRow w.heap.size 46 3 v (aS (T.M i) (T.S i)).length (cB (aS (T.M i) (T.S i)))/\DX w' lo hi D (T.dw i) (L+1)/\ah (λb=>lo<=b/\b<hi) w w':=by
 obtain ⟨P,cap,GB,h⟩:=h;refine (Ox h hL i hi').mono ?_;rintro e w' ⟨v,rfl,h0,h1,h2⟩
 exact ⟨v,rfl,h0,⟨P,cap,GB,h1⟩,h2⟩
theorem DX.del (h:DX w lo hi D T L) (hL:0<=L/\L<=1000000000) (key:Int) (hs:Nat) (hh:hs<18446744073709551616) :
 Calls Tryz.prog 67 #[.pointer (some ⟨D,0,none⟩),.int .u64 key,.int .u64 (hs:Int)] w λe w' =>
  e = .returned (.tuple #[.agg #[.int .u64 (T.bA key hs).key,.int .u64 (T.bA key hs).val,.int .u64 (T.bA key hs).hash],.bool (T.has key hs)])/\DX w' lo hi D (T.eB key hs) (L+T.looks key hs)/\ah (λb=>lo<=b/\b<hi) w w':=by
 obtain ⟨P,cap,GB,h⟩:=h;refine (Tn h hL key hs hh).mono ?_;rintro e w' ⟨rfl,h1,h2⟩
 exact ⟨rfl,⟨P,cap,GB,h1⟩,h2⟩
theorem DX.good (h:DX w lo hi D T L):bq T:=by obtain ⟨P,cap,GB,h⟩:=h;exact h.good
theorem DX.head (h:DX w lo hi D T L):∃P cap,w.cell? ⟨D,0,none⟩=some (.slice (some ⟨P,0,none⟩) T.n cap):=by obtain ⟨P,cap,GB,h⟩:=h;exact ⟨P,cap,h.head.cell 0⟩
end
def ZD (p0:PB) (pt:Nat->PB) (k:Nat) (b:Nat):Prop:=(p0.mid<=b/\b<p0.hi)\/∃i,i<k/\(pt i).mid<=b/\b<(pt i).hi
structure RV (w:World) (X gt aH k:Nat) (p0:PB) (pt:Nat->PB) (d next:Nat) (T:ae) (U:Nat->ae) (L0:Int) (Lc:Nat->Int):Prop where
 v:VM w X p0.D gt aH k (λi=>(pt i).D) d next
 o:DX w p0.mid p0.hi p0.D T L0
 t:∀i,i<k->DX w (pt i).mid (pt i).hi (pt i).D (U i) (Lc i)
 s0:∀i,i<k->p0.hi<=(pt i).mid
 s1:∀i j,i<j->j<k->(pt i).hi<=(pt j).mid
 x:∀b,ZD p0 pt k b->b≠X/\b≠gt
section
variable {w w':World} {X gt aH k:Nat} {p0:PB} {pt:Nat->PB} {d next:Nat} {T:ae} {U:Nat->ae} {L0:Int} {Lc:Nat->Int}
theorem RV.later (h:RV w X gt aH k p0 pt d next T U L0 Lc) (hb:Below w.heap.size w w'):RV w' X gt aH k p0 pt d next T U L0 Lc:=⟨h.v.later hb,h.o.later hb,λi hi=>(h.t i hi).later hb,h.s0,h.s1,h.x⟩
theorem RV.drew (h:RV w X gt aH k p0 pt d next T U L0 Lc):RV w.drew X gt aH k p0 pt d next T U L0 Lc:=h.later (aM _ _).drew
theorem RV.alloc (h:RV w X gt aH k p0 pt d next T U L0 Lc) (o:Obj):RV (w.alloc o) X gt aH k p0 pt d next T U L0 Lc:=h.later ((aM _ _).alloc (aL _) o)
theorem RV.aA {Y:Nat->Prop} (h:RV w X gt aH k p0 pt d next T U L0 Lc) (hc:ah Y w w') (hY:∀b,ZD p0 pt k b->¬Y b) (h1:¬Y X) (h2:¬Y gt):RV w' X gt aH k p0 pt d next T U L0 Lc :=
 ⟨h.v.aA hc h1 h2,h.o.aA hc (λb a c=>hY b (.inl ⟨a,c⟩)),λi hi=>(h.t i hi).aA hc (λb a c=>hY b (.inr ⟨i,hi,a,c⟩)),h.s0,h.s1,h.x⟩
theorem RV.put (h:RV w X gt aH k p0 pt d next T U L0 Lc) {i:Nat} (hi:i<k) (hL:0<=Lc i/\Lc i<=1000000000) (key v:Int) (hs:Nat) (hh:hs<18446744073709551616) :
 Calls Tryz.prog 65 #[.pointer (some ⟨(pt i).D,0,none⟩),.agg #[.int .u64 key,.int .u64 v,.int .u64 (hs:Int)]] w λe w' =>
  e = .returned (.tuple #[.bool ((U i).bB key hs),.int .i64 (((U i).bN key hs:Nat):Int)])/\RV w' X gt aH k p0 pt d next T (upd U i ((U i).aR key v hs)) L0 (upd Lc i (Lc i+(U i).looks key hs))/\ah (ZD p0 pt k) w w':=by
 refine ((h.t i hi).put hL key v hs hh).mono ?_;rintro e w' ⟨rfl,h1,h2⟩
 refine ⟨rfl,⟨h.v.aA h2 (λe=>(h.x X (.inr ⟨i,hi,e⟩)).1 rfl) (λe=>(h.x gt (.inr ⟨i,hi,e⟩)).2 rfl),h.o.aA h2 (λb a c e=>by have:=h.s0 i hi;omega),λj hj=>?_,h.s0,h.s1,h.x⟩,h2.mono (λb _ e => .inr ⟨i,hi,e⟩)⟩;by_cases e:j=i
 . subst e;rw [upd_same,upd_same];exact h1
 . rw [ay _ _ e,ay _ _ e];refine (h.t j hj).aA h2 (λb a c e2=>?_);rcases Nat.lt_or_gt_of_ne e with c2|c2
   . have:=h.s1 j i c2 hi;omega
   . have:=h.s1 i j c2 hj;omega
theorem RV.take (h:RV w X gt aH k p0 pt d next T U L0 Lc) (hL:0<=L0/\L0<=1000000000) (hn:next<T.n) :
 Calls Tryz.prog 132 #[.pointer (some ⟨p0.D,0,none⟩),.int .i64 (next:Int)] w λe w' =>
  ∃v,e = .returned (.tuple #[v,.int .i64 0])/\w'.ownsRow w.heap.size 46 3 v (aS (T.M next) (T.S next)).length (cB (aS (T.M next) (T.S next)))/\RV w' X gt aH k p0 pt d next (T.dw next) U (L0+1) Lc/\ah (ZD p0 pt k) w w':=by
 refine (h.o.take hL next hn).mono ?_;rintro e w' ⟨v,rfl,h0,h1,h2⟩
 exact ⟨v,rfl,h0,⟨h.v.aA h2 (λe=>(h.x X (.inl e)).1 rfl) (λe=>(h.x gt (.inl e)).2 rfl),h1,λj hj=>(h.t j hj).aA h2 (λb a c e=>by have:=h.s0 j hj;omega),h.s0,h.s1,h.x⟩,h2.mono (λb _ e => .inl e)⟩
theorem Un (h:RV w X gt aH k p0 pt d next T U L0 Lc) (hn:next=T.n) :
 Calls Tryz.prog 84 #[.pointer (some ⟨X,0,none⟩)] w λe w'=>e = .returned (.tuple #[.bool false,.bool false])/\Below w.heap.size w w':=by
 obtain ⟨c0,c1,c2,c3,zX,fX⟩:=eX h.v;obtain ⟨P,cap,d0⟩:=h.o.head;have zD:=h.o.lt;subst hn;have hb:=h.o.good.bounds;clear h;go_enter Tryz.func84,Tryz.ntmps84
 go_wp2;refine ag (λ_=>False) #[⟨0,0,1024,1,0⟩,⟨1,1,2048,1024,0⟩,⟨2,3,4096,2048,0⟩,⟨4,7,8192,4096,1⟩,⟨0,0,2^14,1,0⟩,⟨16,16,2^15,2^14,0⟩,⟨32,48,2^16,2^15,0⟩,⟨64,112,2^17,2^16,1⟩,⟨128,240,2^18,2^17,0⟩,⟨256,496,2^19,2^18,0⟩,⟨512,1008,2^20,2^19,1⟩,⟨1024,2032,2^21,2^20,0⟩,⟨2056,4095,2^22,(2^13+2^21),0⟩] 1160 [(0,0),(1,0),(2,0),(3,1),(4,0),(5,0),(6,0),(7,1),(8,0),(9,0),(10,1),(11,0),(12,0)] (by kernel_rfl) (by kernel_rfl) (by kernel_rfl) (by kernel_rfl) (by kernel_rfl) (by kernel_rfl) (λc a d v w h=>by cases d <;> exact h) ?_;refine aj ?_;refine aj ?_;refine aj ?_;refine bW Tryz.underlying3 ?_
 try refine aC ?_;refine aj ?_;refine aj ?_;refine aj ?_
 refine bW Tryz.underlying75 ?_
 try refine aC ?_;refine aj ?_;refine aj ?_
 refine bW Tryz.underlying128 ?_
 try refine aC ?_;refine aj ?_;refine aj ?_
 refine aD ?_;go_wp2;go_ret2;exact ⟨rfl,(aM _ _).drew⟩
end
end Go.Proofs.YtolhmibejhldkaaGreatDoor
