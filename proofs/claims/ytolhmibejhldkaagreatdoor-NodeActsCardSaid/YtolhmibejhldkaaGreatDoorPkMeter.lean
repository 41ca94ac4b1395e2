/- Joined texts; conditions within. -/
import Derived.Test.YtolhmibejhldkaaGreatDoorPkSwar
set_option linter.unusedVariables false
set_option linter.unusedSimpArgs false
set_option maxRecDepth 100000
set_option maxHeartbeats 1600000
namespace Go.Proofs.YtolhmibejhldkaaGreatDoor
open Go.RowKit
def mnZ (x y:Int):Int:=if y<x then y else x
def mxZ (x y:Int):Int:=if x<y then y else x
def qh (n:Int):Int:=mnZ (mxZ n 0) 1099511627776
theorem Iy (n:Int):0<=qh n/\qh n<=1099511627776:=by unfold qh mnZ mxZ;omega
theorem Iw {n:Int} (h0:0<=n) (h1:n<=1099511627776):qh n=n:=by unfold qh mnZ mxZ;omega
def nu (a b:Int):Int:=mnZ (qh a+qh b) 1099511627776
theorem nJ {a b:Int} (ha:0<=a) (hb:0<=b) (h:a+b<=1099511627776):nu a b=a+b:=by
 unfold nu;rw [Iw ha (by omega),Iw hb (by omega)];unfold mnZ;omega
theorem run_minZ {P:Program} (w:World) (ts:Array TypeId) (ty:TypeId) (k k':IntKind) (x y:Int) :
 (Builtin.min_ ts ty #[.int k x,.int k' y]).run P w = .ok (.int k (mnZ x y)) w:=by
 simp [Builtin.min_,Builtin.min2];rfl
theorem run_maxZ {P:Program} (w:World) (ts:Array TypeId) (ty:TypeId) (k k':IntKind) (x y:Int) :
 (Builtin.max_ ts ty #[.int k x,.int k' y]).run P w = .ok (.int k (mxZ x y)) w:=by
 simp [Builtin.max_,Builtin.max2];rfl
attribute [local go_sem high] run_minZ run_maxZ
theorem En (n:Int) (w:World) :
 Calls Tryz.prog 193 #[.int .i64 n] w λe w'=>e = .returned (.int .i64 (qh n))/\w=w':=by
 go_enter Tryz.func193,Tryz.ntmps193
 go_wp2;go_ret;exact ⟨rfl,rfl⟩
theorem oF (a b:Int) (w:World) :
 Calls Tryz.prog 192 #[.int .i64 a,.int .i64 b] w λe w'=>e = .returned (.int .i64 (nu a b))/\w=w':=by
 obtain ⟨a0,a1⟩:=Iy a;obtain ⟨b0,b1⟩:=Iy b;go_enter Tryz.func192,Tryz.ntmps192
 go_wp2_with (go_at_call 193;refine (En _ _).mono ?_;rintro e w' ⟨rfl,rfl⟩)
 go_ret;exact ⟨rfl,rfl⟩
theorem rE (a0 a1 a2 b0 b1 b2:Int) (w:World) :
 Calls Tryz.prog 186 #[.agg #[.int .i64 a0,.int .i64 a1,.int .i64 a2],.agg #[.int .i64 b0,.int .i64 b1,.int .i64 b2]] w λe w' =>
  e = .returned (.agg #[.int .i64 (nu a0 b0),.int .i64 (nu a1 b1),.int .i64 (nu a2 b2)])/\Below w.heap.size w w':=by
 go_enter Tryz.func186,Tryz.ntmps186
 go_wp2;refine ag (λ_=>False) #[⟨0,0,32,4,0⟩,⟨1,1,64,32,1⟩,⟨0,0,128,8,0⟩,⟨4,4,256,128,1⟩,⟨10,15,512,320,2⟩,⟨0,0,1024,4,0⟩,⟨32,32,2048,1024,1⟩,⟨0,0,4096,8,0⟩,⟨128,128,8192,4096,1⟩,⟨336,511,2^14,(2^11+2^13),2⟩,⟨0,0,2^15,4,0⟩,⟨1024,1024,2^16,2^15,1⟩,⟨0,0,2^17,8,0⟩,⟨4096,4096,2^18,2^17,1⟩,⟨(2^9+2^11+2^13),16383,2^19,(2^16+2^18),3⟩,⟨(2^4+2^9+2^14),32767,2^20,(2^9+2^14+2^19),0⟩,⟨65535,65535,0,(2^4+2^20),3⟩] 10570 [(0,0),(1,1),(2,0),(3,1),(5,0),(6,1),(7,0),(8,1),(10,0),(11,1),(12,0),(13,1),(4,2),(9,2),(14,3),(15,0),(16,3)] (by kernel_rfl) (by kernel_rfl) (by kernel_rfl) (by kernel_rfl) (by kernel_rfl) (by kernel_rfl) (λc a d v w h=>by cases d <;> exact h) ?_;refine aj ?_;refine bW Tryz.underlying3 ?_
 try refine aC ?_;refine aj ?_
 refine bW Tryz.underlying3 ?_
 try refine aC ?_;refine aj ?_
 refine bW Tryz.underlying3 ?_
 try refine aC ?_;refine aj ?_
 refine bW Tryz.underlying3 ?_
 try refine aC ?_;refine aj ?_
 refine bW Tryz.underlying3 ?_
 try refine aC ?_;refine aj ?_
 refine bW Tryz.underlying3 ?_
 try refine aC ?_
 refine iK λK hK=>?_;go_wp2_with (go_at_call 192;refine (oF _ _ _).mono ?_;rintro e w' ⟨rfl,rfl⟩);refine iX hK (h:=?_);clear hK K
 try refine aC ?_
 refine iK λK hK=>?_;go_wp2_with (go_at_call 192;refine (oF _ _ _).mono ?_;rintro e w' ⟨rfl,rfl⟩);refine iX hK (h:=?_);clear hK K
 try refine aC ?_
 refine fA λK hK=>?_;go_wp2_with (go_at_call 192;refine (oF _ _ _).mono ?_;rintro e w' ⟨rfl,rfl⟩);refine hK.out _ _ ?_;clear hK K
 try refine aC ?_;refine aj ?_
 refine fA λK hK=>?_;go_wp2_with (fail);refine hK.out _ _ ?_;clear hK K
 try refine aC ?_
 refine aD ?_;go_wp2;exact bodyPost_ret (v := .agg #[.int .i64 (nu a0 b0),.int .i64 (nu a1 b1),.int .i64 (nu a2 b2)]) (by simp [results,Tryz.results186,go_sem]) rfl ⟨rfl,by go_grown⟩
structure aG where
 a0:Int
 a1:Int
 a2:Int
 l0:Int
 l1:Int
 l2:Int
 limited:Bool
 limit:Int
def aG.cells (m:aG):Array Value := #[.int .i64 m.a0,.int .i64 m.a1,.int .i64 m.a2,.int .i64 m.l0,.int .i64 m.l1,.int .i64 m.l2,.bool m.limited,.int .i64 m.limit]
def aG.add (m:aG) (x y z:Int):aG:={ m with a0:=nu m.a0 x,a1:=nu m.a1 y,a2:=nu m.a2 z,l0:=nu m.l0 x,l1:=nu m.l1 y,l2:=nu m.l2 z}
def aG.zero:aG:=⟨0,0,0,0,0,0,false,0⟩
theorem CU {w:World} {B:Nat} {T:TypeId} {m:aG} (h:af w B T m.cells) :
 (w.cell? ⟨B,0,none⟩=some (.int .i64 m.a0)/\w.cell? ⟨B,1,none⟩=some (.int .i64 m.a1)/\w.cell? ⟨B,2,none⟩=some (.int .i64 m.a2)/\w.cell? ⟨B,3,none⟩=some (.int .i64 m.l0)/\
  w.cell? ⟨B,4,none⟩=some (.int .i64 m.l1)/\w.cell? ⟨B,5,none⟩=some (.int .i64 m.l2)/\w.cell? ⟨B,6,none⟩=some (.bool m.limited)/\w.cell? ⟨B,7,none⟩=some (.int .i64 m.limit))/\
 (w.frozen? ⟨B,0,none⟩=false/\w.frozen? ⟨B,1,none⟩=false/\w.frozen? ⟨B,2,none⟩=false/\w.frozen? ⟨B,3,none⟩=false/\w.frozen? ⟨B,4,none⟩=false/\w.frozen? ⟨B,5,none⟩=false/\w.frozen? ⟨B,6,none⟩=false/\w.frozen? ⟨B,7,none⟩=false) :=
 ⟨⟨h.cell 0,h.cell 1,h.cell 2,h.cell 3,h.cell 4,h.cell 5,h.cell 6,h.cell 7⟩,h.frozen 0,h.frozen 1,h.frozen 2,h.frozen 3,h.frozen 4,h.frozen 5,h.frozen 6,h.frozen 7⟩
theorem Bf (m:aG) (x y z:Int) (B:Nat) (T:TypeId) (w:World) (hb:af w B T m.cells) :
 Calls Tryz.prog 169 #[.pointer (some ⟨B,0,none⟩),.agg #[.int .i64 x,.int .i64 y,.int .i64 z]] w λe w' =>
  e = .returned (.tuple #[])/\af w' B T (m.add x y z).cells/\ah (λb=>b=B) w w':=by
 have hlt:=hb.lt;have hlt1:B<w.heap.size+1:=by omega
 have HB:=aa hb;obtain ⟨hc,hf⟩:=CU hb;clear hb;go_enter Tryz.func169,Tryz.ntmps169
 go_wp2;refine ag (λ_=>False) #[⟨0,0,16,1,0⟩,⟨0,0,32,1,0⟩,⟨0,0,64,1,0⟩,⟨4,4,128,64,0⟩,⟨8,12,256,128,0⟩,⟨16,28,512,256,1⟩,⟨0,0,1024,8,1⟩,⟨96,124,2048,1536,2⟩,⟨0,0,4096,1,0⟩,⟨256,256,8192,4096,0⟩,⟨512,768,2^14,8192,0⟩,⟨1024,1792,2^15,2^14,1⟩,⟨0,0,2^16,8,1⟩,⟨6272,8188,2^17,(2^15+2^16),3⟩,⟨10493,16381,2^18,16,0⟩,⟨26877,32765,2^19,2^18,0⟩,⟨43261,65533,0,(2^11+2^19),3⟩,⟨131071,131071,2^20,32,0⟩,⟨262143,262143,2^21,2^20,0⟩,⟨393215,524287,0,(2^17+2^21),3⟩] 6240 [(0,0),(1,0),(2,0),(3,0),(4,0),(5,1),(6,1),(8,0),(9,0),(10,0),(11,1),(12,1),(7,2),(13,3),(14,0),(15,0),(16,3),(17,0),(18,0),(19,3)] (by kernel_rfl) (by kernel_rfl) (by kernel_rfl) (by kernel_rfl) (by kernel_rfl) (by kernel_rfl) (λc a d v w h=>by cases d <;> exact h) ?_;refine aj ?_;refine aj ?_;refine aj ?_;refine aj ?_;refine aj ?_;refine jR [_,_,_] Tryz.underlying35 ?_
 try refine aC ?_
 refine jR [_,_,_] Tryz.underlying35 ?_
 try refine aC ?_;refine aj ?_;refine aj ?_;refine aj ?_
 refine jR [_,_,_] Tryz.underlying35 ?_
 try refine aC ?_
 refine jR [_,_,_] Tryz.underlying35 ?_
 try refine aC ?_
 refine iK λK hK=>?_;go_wp2_with (go_at_call 186;refine (rE _ _ _ _ _ _ _).mono ?_;rintro e w1 ⟨rfl,hb1⟩;have hB1:Below w.heap.size w w1:=(by (exact Below.trans (by go_grown) (hb1.mono (by simp <;> omega))));have hcB:=λ(o:Nat)=>hb1.cell (p:=⟨B,o,none⟩) (by ((simp <;> omega)));have hfB:=λ(o:Nat)=>hb1.frozen (p:=⟨B,o,none⟩) (by ((simp <;> omega)));have QM:B<w1.heap.size:=bM (by ((simp <;> omega))) hb1.size);refine iX hK (h:=?_);clear hK K
 try refine aC ?_
 refine fA λK hK=>?_;go_wp2_with (go_at_call 186;refine (rE _ _ _ _ _ _ _).mono ?_;rintro e w1 ⟨rfl,hb1⟩;have hB1:Below w.heap.size w w1:=(by exact hB1.trans (hb1.mono hB1.size));have hcB:=λ(o:Nat)=>hb1.cell (p:=⟨B,o,none⟩) (by assumption);have hfB:=λ(o:Nat)=>hb1.frozen (p:=⟨B,o,none⟩) (by assumption);have QM:B<w1.heap.size:=bM (by assumption) hb1.size);refine hK.out _ _ ?_;clear hK K
 try refine aC ?_;refine aj ?_;refine aj ?_
 refine fA λK hK=>?_;go_wp2_with (fail);refine hK.out _ _ ?_;clear hK K
 try refine aC ?_;refine aj ?_;refine aj ?_
 refine fA λK hK=>?_;go_wp2_with (fail);refine hK.out _ _ ?_;clear hK K
 try refine aC ?_
 refine aD ?_
 ((try simp only [Exit.inBlock,Exit.then]);refine bodyPost_end (results_none rfl _ _ _) rfl ?_)
 refine ⟨rfl,?_,?_⟩
 . exact ((((((HB.out.below hB1 hlt).set 0 _).set 1 _).set 2 _).set 3 _).set 4 _).set 5 _
 . repeat (with_reducible refine ah.set1 ?_ _ _)
   exact ah.of_below hB1
theorem fT (p:Option Addr) (w:World) :
 Calls Tryz.prog 11 #[.pointer p] w λe w'=>e = .returned (.agg #[.pointer p,.int .i64 1,.int .i64 0,.int .i64 0])/\Below w.heap.size w w':=by
 go_enter Tryz.func11,Tryz.ntmps11
 go_wp2;exact bodyPost_ret (v := .agg #[.pointer p,.int .i64 1,.int .i64 0,.int .i64 0]) (by simp [results,Tryz.results11,go_sem]) rfl ⟨rfl,by go_grown⟩
theorem Rq (m:aG) (x y z:Int) (B:Nat) (T:TypeId) (w:World) (hb:af w B T m.cells) :
 Calls Tryz.prog 135 #[.agg #[.pointer (some ⟨B,0,none⟩),.int .i64 x,.int .i64 y,.int .i64 z]] w λe w' =>
  e = .returned (.tuple #[])/\af w' B T (m.add x y z).cells/\ah (λb=>b=B) w w':=by
 have hlt:=hb.lt;have HA:=λ(w':World) (h:Below w.heap.size w w')=>Bf m x y z B T w' (hb.below h hlt);replace HA:=aa HA;clear hb;go_enter Tryz.func135,Tryz.ntmps135
 go_wp2_with (go_at_call 169;refine (HA.out _ (by go_grown)).mono ?_;rintro e w1 ⟨rfl,h1,h2⟩)
 ((try simp only [Exit.inBlock,Exit.then]);refine bodyPost_end (results_none rfl _ _ _) rfl ?_)
 exact ⟨rfl,h1,(ah.of_below (by go_grown)).trans h2⟩
theorem Na (x y z:Int) (w:World) :
 Calls Tryz.prog 135 #[.agg #[.pointer none,.int .i64 x,.int .i64 y,.int .i64 z]] w λe w'=>e = .returned (.tuple #[])/\Below w.heap.size w w':=by
 go_enter Tryz.func135,Tryz.ntmps135
 go_wp2
 ((try simp only [Exit.inBlock,Exit.then]);refine bodyPost_end (results_none rfl _ _ _) rfl ?_)
 exact ⟨rfl,by go_grown⟩
theorem Hf (m:aG) (n:Int) (h:1<=n) (hm:m.limited=false) (B:Nat) (T:TypeId) (w:World) (hb:af w B T m.cells) :
 Calls Tryz.prog 150 #[.pointer (some ⟨B,0,none⟩),.int .i64 n] w λe w'=>e = .returned (.tuple #[])/\af w' B T (m.add 0 0 n).cells/\ah (λb=>b=B) w w':=by
 have hlt:=hb.lt;have HA:=λ(w':World) (h:Below w.heap.size w w')=>Bf m 0 0 n B T w' (hb.below h hlt);replace HA:=aa HA;obtain ⟨hc,hf⟩:=CU hb;rw [hm] at hc;clear hb;go_enter Tryz.func150,Tryz.ntmps150
 go_wp2;refine ag (λ_=>False) #[⟨0,0,64,1,0⟩,⟨1,1,128,64,0⟩,⟨2,3,256,128,0⟩,⟨4,7,512,256,1⟩,⟨8,15,1024,512,0⟩,⟨16,31,2048,1026,0⟩,⟨16,31,4096,1025,0⟩,⟨80,95,8192,5120,0⟩,⟨144,223,2^14,9216,0⟩,⟨272,479,2^15,(2^10+2^14),1⟩,⟨16,31,2^16,1025,0⟩,⟨1040,1055,2^17,(2^10+2^16),0⟩,⟨2064,3103,2^18,(2^10+2^17),0⟩,⟨4112,7199,2^19,(2^10+2^18),0⟩,⟨8208,15391,2^20,(2^10+2^19),1⟩,⟨(2^4+2^9+2^14),32735,2^21,(2^10+2^15+2^20),0⟩,⟨(2^4+2^5+2^15),65535,2^22,(2^10+2^11+2^21),0⟩,⟨(2^4+2^16),131071,2^23,(2^10+2^22),0⟩] (2^3+2^9+2^14) [(0,0),(1,0),(2,0),(3,1),(4,0),(5,0),(6,0),(7,0),(8,0),(9,1),(10,0),(11,0),(12,0),(13,0),(14,1),(15,0),(16,0),(17,0)] (by kernel_rfl) (by kernel_rfl) (by kernel_rfl) (by kernel_rfl) (by kernel_rfl) (by kernel_rfl) (λc a d v w h=>by cases d <;> exact h) ?_;refine aj ?_;refine aj ?_;refine aj ?_;refine bW Tryz.underlying4 ?_
 try refine aC ?_;refine aj ?_
 first
  | (refine jD ?_)
 try refine aC ?_
 first
  | (refine jD ?_)
 try refine aC ?_
 first
  | (refine jD ?_)
 try refine aC ?_
 first
  | (refine jD ?_)
 try refine aC ?_
 first
  | (refine jD ?_)
 try refine aC ?_
 first
  | (refine jD ?_)
 try refine aC ?_
 first
  | (refine jD ?_)
 try refine aC ?_
 first
  | (refine jD ?_)
 try refine aC ?_
 first
  | (refine jD ?_)
 try refine aC ?_
 first
  | (refine jD ?_)
 try refine aC ?_
 first
  | (refine jD ?_)
 try refine aC ?_
 first
  | (refine jD ?_)
 try refine aC ?_;refine aj ?_
 refine aD ?_
 go_wp2_with (go_at_call 169;refine (HA.out _ (by go_grown)).mono ?_;rintro e w1 ⟨rfl,h1,h2⟩)
 ((try simp only [Exit.inBlock,Exit.then]);refine bodyPost_end (results_none rfl _ _ _) rfl ?_)
 exact ⟨rfl,h1,(ah.of_below (by go_grown)).trans h2⟩
theorem o9 (p:Option Addr) (w:World) :
 Calls Tryz.prog 153 #[.pointer p] w λe w'=>e = .returned (.agg #[.pointer p,.int .i64 0,.int .i64 1,.int .i64 0])/\Below w.heap.size w w':=by
 go_enter Tryz.func153,Tryz.ntmps153
 go_wp2;exact bodyPost_ret (v := .agg #[.pointer p,.int .i64 0,.int .i64 1,.int .i64 0]) (by simp [results,Tryz.results153,go_sem]) rfl ⟨rfl,by go_grown⟩
end Go.Proofs.YtolhmibejhldkaaGreatDoor
