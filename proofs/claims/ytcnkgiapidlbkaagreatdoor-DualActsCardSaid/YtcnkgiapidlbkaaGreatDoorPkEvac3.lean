/- Texts joined: Ref12. No condition but those that stand within. -/
import Derived.Test.YtcnkgiapidlbkaaGreatDoorPkSwar
import Derived.Test.YtcnkgiapidlbkaaGreatDoorPkMeter
import Derived.Test.YtcnkgiapidlbkaaGreatDoorPkErrs
import Derived.Test.YtcnkgiapidlbkaaGreatDoorPkGroup
import Derived.Test.YtcnkgiapidlbkaaGreatDoorPkTab
import Derived.Test.YtcnkgiapidlbkaaGreatDoorPkTab2
import Derived.Test.YtcnkgiapidlbkaaGreatDoorPkTab3
import Derived.Test.YtcnkgiapidlbkaaGreatDoorPkTake
import Derived.Test.YtcnkgiapidlbkaaGreatDoorPkTabM
import Derived.Test.YtcnkgiapidlbkaaGreatDoorPkBuild
import Derived.Test.YtcnkgiapidlbkaaGreatDoorPkEvac
import Derived.Test.YtcnkgiapidlbkaaGreatDoorPkSound
import Derived.Test.YtcnkgiapidlbkaaGreatDoorPkRef09
import Derived.Test.YtcnkgiapidlbkaaGreatDoorPkEvac2
set_option linter.unusedVariables false
set_option linter.unusedSimpArgs false
set_option maxRecDepth 100000
set_option maxHeartbeats 200000
namespace Go.Proofs.YtcnkgiapidlbkaaGreatDoor
open Go.RowKit Go.Proofs
def sumI (f:Nat→Int):Nat→Int
 | 0=>0
 | n+1=>sumI f n+f n
theorem sumI_congr {f g:Nat→Int}:∀ {n:Nat},(∀i,i<n→f i=g i)→sumI f n=sumI g n
 | 0,_=>rfl
 | n+1,h=>by unfold sumI;rw [sumI_congr (n:=n) (fun i hi=>h i (by omega)),h n (by omega)]
theorem sumI_upd {f:Nat→Int} {i:Nat} {v:Int}:∀ {n:Nat},i<n→sumI (upd f i v) n=sumI f n+(v-f i)
 | 0,h=>absurd h (by omega)
 | n+1,h=>by
  unfold sumI
  by_cases e:i=n
  · subst e
    rw [upd_same,sumI_congr (f:=upd f i v) (g:=f) (fun j hj=>upd_other _ _ (by omega))]
    omega
  · rw [sumI_upd (n:=n) (by omega),upd_other _ _ (by omega)]
    omega
theorem sumI_bd {f:Nat→Int} {m:Int}:∀ {n:Nat},(∀i,i<n→0≤f i∧f i≤m)→0≤sumI f n∧sumI f n≤n*m
 | 0,_=>by simp [sumI]
 | n+1,h=>by
  obtain ⟨h1,h2⟩:=sumI_bd (n:=n) (fun i hi=>h i (by omega))
  obtain ⟨h3,h4⟩:=h n (by omega)
  unfold sumI
  have:((n+1:Nat):Int)*m=n*m+m:=by rw [Int.natCast_add,Int.add_mul];simp
  omega
section
variable {w w':World} {lo hi D:Nat} {T:TabS} {L:Int}
theorem DX.take (h:DX w lo hi D T L) (hL:0≤L∧L≤1000000000) (i:Nat) (hi':i<T.n) :
 Calls Tryz.prog 118 #[.pointer (some ⟨D,0,none⟩),.int .i64 (i:Int)] w fun e w' =>
  ∃v,e = .returned (.tuple #[v,.int .i64 0])∧w'.ownsRow w.heap.size 41 3 v (entsL (T.M i) (T.S i)).length (entV (entsL (T.M i) (T.S i)))∧DX w' lo hi D (T.takeT i) (L+1)∧Chg (fun b=>lo≤b∧b<hi) w w':=by
 obtain ⟨P,cap,GB,h⟩:=h
 refine (dttake_any h hL i hi').mono ?_
 rintro e w' ⟨v,rfl,h0,h1,h2⟩
 exact ⟨v,rfl,h0,⟨P,cap,GB,h1⟩,h2⟩
theorem DX.text (h:DX w lo hi D T L):Calls Tryz.prog 27 #[.pointer (some ⟨D,0,none⟩)] w fun e w' => ∃v,e = .returned v∧ReadsTexts w' v T.texts∧Below w.heap.size w w':=by
 obtain ⟨P,cap,GB,h⟩:=h
 exact dttext_any h
theorem DX.del (h:DX w lo hi D T L) (hL:0≤L∧L≤1000000000) (key:Int) (hs:Nat) (hh:hs<18446744073709551616) :
 Calls Tryz.prog 58 #[.pointer (some ⟨D,0,none⟩),.int .u64 key,.int .u64 (hs:Int)] w fun e w' =>
  e = .returned (.tuple #[.agg #[.int .u64 (T.ent key hs).key,.int .u64 (T.ent key hs).val,.int .u64 (T.ent key hs).hash],.bool (T.has key hs)])∧DX w' lo hi D (T.delT key hs) (L+T.looks key hs)∧Chg (fun b=>lo≤b∧b<hi) w w':=by
 obtain ⟨P,cap,GB,h⟩:=h
 refine (dtdel_any h hL key hs hh).mono ?_
 rintro e w' ⟨rfl,h1,h2⟩
 exact ⟨rfl,⟨P,cap,GB,h1⟩,h2⟩
theorem DX.good (h:DX w lo hi D T L):TGood T:=by obtain ⟨P,cap,GB,h⟩:=h;exact h.good
theorem DX.head (h:DX w lo hi D T L):∃P cap,w.cell? ⟨D,0,none⟩=some (.slice (some ⟨P,0,none⟩) T.n cap):=by obtain ⟨P,cap,GB,h⟩:=h;exact ⟨P,cap,h.head.cell 0⟩
end
def ZD (p0:PB) (pt:Nat→PB) (k:Nat) (b:Nat):Prop:=(p0.mid≤b∧b<p0.hi)∨∃i,i<k∧(pt i).mid≤b∧b<(pt i).hi
structure RV (w:World) (X gt tcap k:Nat) (p0:PB) (pt:Nat→PB) (d next:Nat) (T:TabS) (U:Nat→TabS) (L0:Int) (Lc:Nat→Int):Prop where
 v:VM w X p0.D gt tcap k (fun i=>(pt i).D) d next
 o:DX w p0.mid p0.hi p0.D T L0
 t:∀i,i<k→DX w (pt i).mid (pt i).hi (pt i).D (U i) (Lc i)
 s0:∀i,i<k→p0.hi≤(pt i).mid
 s1:∀i j,i<j→j<k→(pt i).hi≤(pt j).mid
 x:∀b,ZD p0 pt k b→b≠X∧b≠gt
section
variable {w w':World} {X gt tcap k:Nat} {p0:PB} {pt:Nat→PB} {d next:Nat} {T:TabS} {U:Nat→TabS} {L0:Int} {Lc:Nat→Int}
theorem RV.later (h:RV w X gt tcap k p0 pt d next T U L0 Lc) (hb:Below w.heap.size w w'):RV w' X gt tcap k p0 pt d next T U L0 Lc:=⟨h.v.later hb,h.o.later hb,fun i hi=>(h.t i hi).later hb,h.s0,h.s1,h.x⟩
theorem RV.drew (h:RV w X gt tcap k p0 pt d next T U L0 Lc):RV w.drew X gt tcap k p0 pt d next T U L0 Lc:=h.later (Below.refl _ _).drew
theorem RV.alloc (h:RV w X gt tcap k p0 pt d next T U L0 Lc) (o:Obj):RV (w.alloc o) X gt tcap k p0 pt d next T U L0 Lc:=h.later ((Below.refl _ _).alloc (Nat.le_refl _) o)
theorem RV.chg {Y:Nat→Prop} (h:RV w X gt tcap k p0 pt d next T U L0 Lc) (hc:Chg Y w w') (hY:∀b,ZD p0 pt k b→¬Y b) (h1:¬Y X) (h2:¬Y gt):RV w' X gt tcap k p0 pt d next T U L0 Lc :=
 ⟨h.v.chg hc h1 h2,h.o.chg hc (fun b a c=>hY b (.inl ⟨a,c⟩)),fun i hi=>(h.t i hi).chg hc (fun b a c=>hY b (.inr ⟨i,hi,a,c⟩)),h.s0,h.s1,h.x⟩
theorem RV.put (h:RV w X gt tcap k p0 pt d next T U L0 Lc) {i:Nat} (hi:i<k) (hL:0≤Lc i∧Lc i≤1000000000) (key v:Int) (hs:Nat) (hh:hs<18446744073709551616) :
 Calls Tryz.prog 46 #[.pointer (some ⟨(pt i).D,0,none⟩),.agg #[.int .u64 key,.int .u64 v,.int .u64 (hs:Int)]] w fun e w' =>
  e = .returned (.tuple #[.bool ((U i).putB key hs),.int .i64 (((U i).putN key hs:Nat):Int)])∧RV w' X gt tcap k p0 pt d next T (upd U i ((U i).putT key v hs)) L0 (upd Lc i (Lc i+(U i).looks key hs))∧Chg (ZD p0 pt k) w w':=by
 refine ((h.t i hi).put hL key v hs hh).mono ?_
 rintro e w' ⟨rfl,h1,h2⟩
 refine ⟨rfl,⟨h.v.chg h2 (fun e=>(h.x X (.inr ⟨i,hi,e⟩)).1 rfl) (fun e=>(h.x gt (.inr ⟨i,hi,e⟩)).2 rfl),h.o.chg h2 (fun b a c e=>by have:=h.s0 i hi;omega),fun j hj=>?_,h.s0,h.s1,h.x⟩,h2.mono (fun b _ e => .inr ⟨i,hi,e⟩)⟩
 by_cases e:j=i
 · subst e;rw [upd_same,upd_same];exact h1
 · rw [upd_other _ _ e,upd_other _ _ e]
   refine (h.t j hj).chg h2 (fun b a c e2=>?_)
   rcases Nat.lt_or_gt_of_ne e with c2|c2
   · have:=h.s1 j i c2 hi;omega
   · have:=h.s1 i j c2 hj;omega
theorem RV.take (h:RV w X gt tcap k p0 pt d next T U L0 Lc) (hL:0≤L0∧L0≤1000000000) (hn:next<T.n) :
 Calls Tryz.prog 118 #[.pointer (some ⟨p0.D,0,none⟩),.int .i64 (next:Int)] w fun e w' =>
  ∃v,e = .returned (.tuple #[v,.int .i64 0])∧w'.ownsRow w.heap.size 41 3 v (entsL (T.M next) (T.S next)).length (entV (entsL (T.M next) (T.S next)))∧RV w' X gt tcap k p0 pt d next (T.takeT next) U (L0+1) Lc∧Chg (ZD p0 pt k) w w':=by
 refine (h.o.take hL next hn).mono ?_
 rintro e w' ⟨v,rfl,h0,h1,h2⟩
 exact ⟨v,rfl,h0,⟨h.v.chg h2 (fun e=>(h.x X (.inl e)).1 rfl) (fun e=>(h.x gt (.inl e)).2 rfl),h1,fun j hj=>(h.t j hj).chg h2 (fun b a c e=>by have:=h.s0 j hj;omega),h.s0,h.s1,h.x⟩,h2.mono (fun b _ e => .inl e)⟩
theorem rstep_no (h:RV w X gt tcap k p0 pt d next T U L0 Lc) (hn:next=T.n) :
 Calls Tryz.prog 74 #[.pointer (some ⟨X,0,none⟩)] w fun e w'=>e = .returned (.tuple #[.bool false,.bool false])∧Below w.heap.size w w':=by
 obtain ⟨c0,c1,c2,c3,zX,fX⟩:=vmcells h.v
 obtain ⟨P,cap,d0⟩:=h.o.head
 have zD:=h.o.lt
 subst hn
 have hb:=h.o.good.bounds
 clear h
 go_enter Tryz.func74,Tryz.ntmps74
 go_wp2
 refine wp_region_seq (fun _=>False) #[⟨0,0,1024,1,0⟩,⟨1,1,2048,1024,0⟩,⟨2,3,4096,2048,0⟩,⟨4,7,8192,4096,1⟩,⟨0,0,16384,1,0⟩,⟨16,16,32768,16384,0⟩,⟨32,48,65536,32768,0⟩,⟨64,112,131072,65536,1⟩,⟨128,240,262144,131072,0⟩,⟨256,496,524288,262144,0⟩,⟨512,1008,1048576,524288,1⟩,⟨1024,2032,2097152,1048576,0⟩,⟨2056,4095,4194304,2105344,0⟩] 1160 [(0,0),(1,0),(2,0),(3,1),(4,0),(5,0),(6,0),(7,1),(8,0),(9,0),(10,1),(11,0),(12,0)] (by kernel_rfl) (by kernel_rfl) (by kernel_rfl) (by kernel_rfl) (by kernel_rfl) (by kernel_rfl) (fun c a d v w h=>by cases d <;> exact h) ?_
 refine zqC ?_;refine zqC ?_;refine zqC ?_
 refine zq1 Tryz.underlying3 ?_
 try refine zqP ?_;refine zqC ?_;refine zqC ?_;refine zqC ?_
 refine zq1 Tryz.underlying70 ?_
 try refine zqP ?_;refine zqC ?_;refine zqC ?_
 refine zq1 Tryz.underlying96 ?_
 try refine zqP ?_;refine zqC ?_;refine zqC ?_
 refine seq_nil ?_
 go_wp2
 go_ret2
 exact ⟨rfl,(Below.refl _ _).drew⟩
theorem rlooks_any (h:RV w X gt tcap k p0 pt d next T U L0 Lc) (hL:0≤L0∧L0≤1000000000) (hLc:∀i,i<k→0≤Lc i∧Lc i≤1000000000) :
 Calls Tryz.prog 9 #[.pointer (some ⟨X,0,none⟩)] w fun e w'=>e = .returned (.int .i64 (L0+sumI Lc k))∧w'=w:=by
 obtain ⟨c0,c1,c2,c3,zX,fX⟩:=vmcells h.v
 have zG:=h.v.lt
 have LL:=hiq h.v.l
 obtain ⟨d1,-⟩:=h.o.cells
 have zD:=h.o.lt
 have HC:=hiq (fun i hi=>(h.t i hi).cells.1)
 have HZ:=hiq (fun i hi=>(h.t i hi).lt)
 have HB:=hiq hLc
 have hk2:1≤k∧k≤2:=by rcases h.v.hk with e|e <;> omega
 have HS:=hiq (fun n (hn:n≤k)=>sumI_bd (f:=Lc) (m:=1000000000) (n:=n) (fun i hi=>hLc i (by omega)))
 clear h hLc c2 c3
 go_enter Tryz.func9,Tryz.ntmps9
 go_wp2
 go_loop [18,3] (fun v18 v3 => ∃j:Nat,j≤k∧v18 = .int .i64 (j:Int)∧v3 = .int .i64 (L0+sumI Lc j)) (fun v18 _=>k-(intOf v18).toNat)
 case atStart=>exact ⟨0,Nat.zero_le _,rfl,by simp [sumI]⟩
 case round =>
  obtain ⟨j,hj,rfl,rfl⟩:=hrel
  by_cases hlt:j<k
  · have hltI:(j:Int)<(k:Int):=by omega
    have l0:=LL.out j hlt
    have x1:=HC.out j hlt
    have zx:=HZ.out j hlt
    have b1:=HB.out j hlt
    have b2:=HS.out j hj
    have hst:sumI Lc (j+1)=sumI Lc j+Lc j:=rfl
    have HST:=hiq hst
    clear hst
    generalize sumI Lc j=s at *
    generalize Lc j=c at *
    have e1:IntKind.i64.wrap (L0+s+c)=L0+s+c:=by rw [IntKind.wrap_i64];omega
    go_wp2
    go_round
    case rel=>exact ⟨j+1,by omega,by go_num,by rw [HST.out,Int.add_assoc]⟩
    case measure=>simp [intOf];omega
  · obtain rfl:j=k:=by omega
    go_wp2
    go_ret
    exact ⟨rfl,rfl⟩
end
end Go.Proofs.YtcnkgiapidlbkaaGreatDoor
