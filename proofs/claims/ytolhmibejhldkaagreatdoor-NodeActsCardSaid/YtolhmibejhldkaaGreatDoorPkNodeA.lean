/- Joined texts; conditions within. -/
import Derived.Deep.QuietTactic
import Derived.BigQuiet
import Derived.Test.YtolhmibejhldkaaGreatDoorPkRef13
set_option linter.unusedVariables false
set_option linter.unusedSimpArgs false
set_option maxRecDepth 100000
set_option maxHeartbeats 8000000
namespace Go.Proofs.YtolhmibejhldkaaGreatDoor
open Go.RowKit
def kV (l t g lo gl:Int):Bool:=aN g && decide (0<=l/\0<=t/\0<=lo/\0<=gl)
def ji (l t g:Int):Bool:=decide (4*g<=l\/4*g-l<=t)
def dY (l t g lo gl:Int):Int :=
 if kV l t g lo gl=true/\ji l t g=true then
  if l<=2*g then 1 else if 8<=g/\lo<gl then 3 else if g<64 then 2 else 1
 else 0
def fV (l t g lo gl:Int):Bool:=decide (kV l t g lo gl=true/\ji l t g=true/\2*g<l/\8<=g/\lo=gl/\gl<5)
theorem gX (l t g lo gl:Int):kV l t g lo gl=true↔aN g=true/\0<=l/\0<=t/\0<=lo/\0<=gl:=by
 simp [kV]
theorem oD (l t g:Int):ji l t g=true↔4*g<=l\/4*g-l<=t:=by simp [ji]
theorem Rn {l t g lo gl:Int} (h:dY l t g lo gl≠0):(kV l t g lo gl=true/\ji l t g=true)/\aN g=true/\1<=g/\g<=64:=by
 have h1:kV l t g lo gl=true/\ji l t g=true:=by
  apply Classical.byContradiction;intro hc;exact h (by unfold dY;rw [if_neg hc])
 have h2:=(gX _ _ _ _ _).1 h1.1;have h3:=(dG g).1 h2.1;exact ⟨h1,h2.1,by omega,by omega⟩
theorem Dy {l t g lo gl:Int} (h:kV l t g lo gl=true/\ji l t g=true):dY l t g lo gl=if l<=2*g then 1 else if 8<=g/\lo<gl then 3 else if g<64 then 2 else 1:=by
 unfold dY;rw [if_pos h]
theorem OB {l t g lo gl:Int} (h:fV l t g lo gl=true):dY l t g lo gl≠0/\dY l t g lo gl≠3/\2*g<l/\lo=gl/\8<=g/\g<=64:=by
 unfold fV at h;rw [decide_eq_true_iff] at h;obtain ⟨h1,h2,h3,h4,h5,h6⟩:=h;have h7:=(dG g).1 ((gX _ _ _ _ _).1 h1).1;rw [Dy ⟨h1,h2⟩];refine ⟨?_,?_,h3,h5,h4,by omega⟩ <;> (repeat split) <;> omega
theorem lS {l t g lo gl:Int} (h:¬ (aN g=true/\0<=l/\0<=t/\0<=lo/\0<=gl)):dY l t g lo gl=0:=by
 unfold dY;rw [if_neg];exact λhc=>h ((gX _ _ _ _ _).1 hc.1)
open Go.RowKit Go.Proofs
def mn (x y:Int):Int:=if y<x then y else x
theorem H7 (x y:Int):0<=mn x y↔0<=x/\0<=y:=by unfold mn;split <;> omega
theorem run_min4 {P:Program} (w:World) (ts:Array TypeId) (ty:TypeId) (k k' k'' k3:IntKind) (x y z u:Int) :
 (Builtin.min_ ts ty #[.int k x,.int k' y,.int k'' z,.int k3 u]).run P w = .ok (.int k (mn (mn (mn x y) z) u)) w:=by
 simp [Builtin.min_,Builtin.min2];rfl
attribute [local go_sem] run_min4
theorem Ma (l t g lo gl:Int) (w:World) :
 Calls Tryz.prog 102 #[.int .i64 l,.int .i64 t,.int .i64 g,.int .i64 lo,.int .i64 gl] w λe w'=>e = .returned (.bool (kV l t g lo gl))/\w=w':=by
 by_cases hr:aN g=true
 . by_cases hn:0<=l/\0<=t/\0<=lo/\0<=gl
   . have hf:kV l t g lo gl=true:=by rw [gX];exact ⟨hr,hn⟩
     have HF:=aa hf;clear hf;have hm:0<=mn (mn (mn l t) lo) gl:=by simp only [H7];omega
     clear hn;go_enter Tryz.func102,Tryz.ntmps102
     go_wp2_with (go_at_call 104;refine (fu _ _).mono ?_;rintro e w' ⟨rfl,rfl⟩)
     go_ret;exact ⟨by rw [HF.out];simp <;> omega,rfl⟩
   . have hf:kV l t g lo gl=false:=by rw [Bool.eq_false_iff,ne_eq,gX];exact λh=>hn h.2
     have HF:=aa hf;have hm:¬0<=mn (mn (mn l t) lo) gl:=by simp only [H7];omega
     clear hf hn;go_enter Tryz.func102,Tryz.ntmps102
     go_wp2_with (go_at_call 104;refine (fu _ _).mono ?_;rintro e w' ⟨rfl,rfl⟩)
     go_ret;exact ⟨by rw [HF.out];simp <;> omega,rfl⟩
 . have hf:kV l t g lo gl=false:=by rw [Bool.eq_false_iff,ne_eq,gX];exact λh=>hr h.1
   have HF:=aa hf;have hr':aN g=false:=by simpa using hr
   clear hf;go_enter Tryz.func102,Tryz.ntmps102
   go_wp2_with (go_at_call 104;refine (fu _ _).mono ?_;rintro e w' ⟨rfl,rfl⟩)
   go_ret;exact ⟨by rw [HF.out];rfl,rfl⟩
theorem Hu (l t g:Int) (hg:1<=g/\g<=64) (h0:0<=l) (w:World) :
 Calls Tryz.prog 103 #[.int .i64 l,.int .i64 t,.int .i64 g] w λe w'=>e = .returned (.bool (ji l t g))/\w=w':=by
 by_cases h1:4*g<=l
 . have hf:ji l t g=true:=by rw [oD];exact .inl h1
   have HF:=aa hf;clear hf;go_enter Tryz.func103,Tryz.ntmps103
   go_wp2;go_ret;exact ⟨by rw [HF.out];simp <;> omega,rfl⟩
 . have hf:ji l t g=decide (4*g-l<=t):=by rw [Bool.eq_iff_iff,oD,decide_eq_true_iff];omega
   have HF:=aa hf;clear hf;go_enter Tryz.func103,Tryz.ntmps103
   go_wp2;go_ret;exact ⟨by rw [HF.out];rfl,rfl⟩
theorem j5 {g:Int} (h:aN g=true):1<=g/\g<=64:=by rw [dG] at h;omega
theorem Rm (l t g lo gl:Int) (w:World) :
 Calls Tryz.prog 50 #[.int .i64 l,.int .i64 t,.int .i64 g,.int .i64 lo,.int .i64 gl] w λe w'=>e = .returned (.int .i64 (dY l t g lo gl))/\w=w':=by
 have cf:=λw=>Ma l t g lo gl w;by_cases hf:kV l t g lo gl=true
 . have hF:=(gX l t g lo gl).1 hf;have hg:=j5 hF.1;have cn:=λw=>Hu l t g hg hF.2.1 w;simp only [hf] at cf;by_cases hn:ji l t g=true
   . simp only [hn] at cn;have hw:dY l t g lo gl=(if l<=2*g then 1 else if 8<=g/\lo<gl then 3 else if g<64 then 2 else 1):=by unfold dY;rw [if_pos ⟨hf,hn⟩]
     have h0:=hF.2.1;have HW:=aa hw;clear hF hf hn hw;go_enter Tryz.func50,Tryz.ntmps50
     go_wp2_with (first|(go_at_call 102;refine (cf _).mono ?_;rintro e w' ⟨rfl,rfl⟩)|(go_at_call 103;refine (cn _).mono ?_;rintro e w' ⟨rfl,rfl⟩))
     all_goals go_ret
     all_goals refine ⟨?_,rfl⟩
     all_goals rw [HW.out]
     all_goals (show Ending.returned (.int .i64 _)=_;congr 2;(repeat split) <;> omega)
   . have hn':ji l t g=false:=by simpa using hn
     simp only [hn'] at cn;have hw:dY l t g lo gl=0:=by unfold dY;rw [if_neg (λh=>hn h.2)]
     have HW:=aa hw;clear hw hf hn hF;go_enter Tryz.func50,Tryz.ntmps50
     go_wp2_with (first|(go_at_call 102;refine (cf _).mono ?_;rintro e w' ⟨rfl,rfl⟩)|(go_at_call 103;refine (cn _).mono ?_;rintro e w' ⟨rfl,rfl⟩))
     go_ret;exact ⟨by rw [HW.out];rfl,rfl⟩
 . have hf':kV l t g lo gl=false:=by simpa using hf
   simp only [hf'] at cf;have hw:dY l t g lo gl=0:=by unfold dY;rw [if_neg (λh=>hf h.1)]
   have HW:=aa hw;clear hw hf;go_enter Tryz.func50,Tryz.ntmps50
   go_wp2_with (go_at_call 102;refine (cf _).mono ?_;rintro e w' ⟨rfl,rfl⟩)
   go_ret;exact ⟨by rw [HW.out];rfl,rfl⟩
theorem OA (l t g lo gl:Int) (w:World) :
 Calls Tryz.prog 51 #[.int .i64 l,.int .i64 t,.int .i64 g,.int .i64 lo,.int .i64 gl] w λe w'=>e = .returned (.bool (fV l t g lo gl))/\w=w':=by
 have cf:=λw=>Ma l t g lo gl w;by_cases hf:kV l t g lo gl=true
 . have hF:=(gX l t g lo gl).1 hf;have hg:=j5 hF.1;have cn:=λw=>Hu l t g hg hF.2.1 w;simp only [hf] at cf;by_cases hn:ji l t g=true
   . simp only [hn] at cn
     have hw:fV l t g lo gl=decide (2*g<l/\8<=g/\lo=gl/\gl<5):=by
      unfold fV;rw [Bool.eq_iff_iff,decide_eq_true_iff,decide_eq_true_iff];exact ⟨λh=>h.2.2,λh=>⟨hf,hn,h⟩⟩
     have h0:=hF.2.1;have HW:=aa hw;clear hF hf hn hw;go_enter Tryz.func51,Tryz.ntmps51
     go_wp2_with (first|(go_at_call 102;refine (cf _).mono ?_;rintro e w' ⟨rfl,rfl⟩)|(go_at_call 103;refine (cn _).mono ?_;rintro e w' ⟨rfl,rfl⟩))
     all_goals go_ret
     all_goals refine ⟨?_,rfl⟩
     all_goals rw [HW.out]
     all_goals (show Ending.returned (.bool _)=_;congr 2;((rw [Bool.eq_iff_iff];simp;omega)))
   . have hn':ji l t g=false:=by simpa using hn
     simp only [hn'] at cn;have hw:fV l t g lo gl=false:=by unfold fV;exact decide_eq_false (λh=>hn h.2.1)
     have HW:=aa hw;clear hw hf hn hF;go_enter Tryz.func51,Tryz.ntmps51
     go_wp2_with (first|(go_at_call 102;refine (cf _).mono ?_;rintro e w' ⟨rfl,rfl⟩)|(go_at_call 103;refine (cn _).mono ?_;rintro e w' ⟨rfl,rfl⟩))
     go_ret;exact ⟨by rw [HW.out];rfl,rfl⟩
 . have hf':kV l t g lo gl=false:=by simpa using hf
   simp only [hf'] at cf;have hw:fV l t g lo gl=false:=by unfold fV;exact decide_eq_false (λh=>hf h.1)
   have HW:=aa hw;clear hw hf;go_enter Tryz.func51,Tryz.ntmps51
   go_wp2_with (go_at_call 102;refine (cf _).mono ?_;rintro e w' ⟨rfl,rfl⟩)
   go_ret;exact ⟨by rw [HW.out];rfl,rfl⟩
end Go.Proofs.YtolhmibejhldkaaGreatDoor
namespace Go.Proofs.YtolhmibejhldkaaGreatDoor
open Go.RowKit Go.Proofs
attribute [local go_sem] neq_nilG eql_nilG
structure bH where
 p:Nat
 d:Nat
 Ey:Int
 bz:Bool
 s:DuS
def NX (a:Nat->Nat) (x:bH) (b:Nat):Prop:=(x.bz=true/\oU a x.s b)\/(x.bz=false/\(b=a 1\/b=a 2))
structure ND (w:World) (Nb:Nat) (a:Nat->Nat) (x:bH) (E:Nat->Addr) (w0:World):Prop where
 b:af w Nb 90 #[.int .i64 (x.p:Int),.int .i64 (x.d:Int),.pointer (some ⟨a 1,0,none⟩),.int .i64 x.Ey,.pointer (if x.bz=true then some ⟨a 0,0,none⟩ else none)]
 i:x.bz=false->TN w (a 1) (a 2) x.s.T E w0/\0<x.s.bare
 u:x.bz=true->fM w a x.s false E w0
 n:w0.heap.size<=Nb/\∀b,NX a x b->b≠Nb
 pd:x.d<=5/\x.p<2 ^ x.d
section
variable {w w' w0:World} {Nb:Nat} {a:Nat->Nat} {x:bH} {E:Nat->Addr} {lp:Option Nat} {mt:aG} {M:Nat}
theorem NX.lt (h:ND w Nb a x E w0):∀b,NX a x b->b<w.heap.size:=λb hb=>by
 rcases hb with ⟨hz,y,hy,rfl⟩ | ⟨hz,e⟩
 . exact (h.u hz).lt y hy
 . rcases e with e|e
   . rw [e];exact (h.i hz).1.Sg
   . rw [e];exact (h.i hz).1.Sd
theorem NX.ge (h:ND w Nb a x E w0):∀b,NX a x b->w0.heap.size<=b:=λb hb=>by
 rcases hb with ⟨hz,y,hy,rfl⟩ | ⟨hz,e⟩
 . exact (h.u hz).n.ge y hy
 . rcases e with e|e
   . rw [e];exact (h.i hz).1.hB
   . rw [e];exact (h.i hz).1.hQ
theorem ND.later (h:ND w Nb a x E w0) (hb:Below w.heap.size w w'):ND w' Nb a x E w0 :=
 ⟨h.b.below hb h.b.lt,λe=>⟨(h.i e).1.later hb,(h.i e).2⟩,λe=>(h.u e).later hb,h.n,h.pd⟩
theorem ND.aA {Y:Nat->Prop} (h:ND w Nb a x E w0) (hc:ah Y w w') (h0:∀b,Y b->w0.heap.size<=b) (hN:¬Y Nb) (hY:∀b,NX a x b->¬Y b):ND w' Nb a x E w0 :=
 ⟨h.b.aA hc hN,λe=>⟨(h.i e).1.aA hc h0 (hY _ (.inr ⟨e,.inl rfl⟩)) (hY _ (.inr ⟨e,.inr rfl⟩)) (λb f=>by cases f),(h.i e).2⟩,λe=>(h.u e).aA hc h0 (λy hy=>hY _ (.inl ⟨e,y,hy,rfl⟩)),h.n,h.pd⟩
theorem ND.j3 (h:ND w Nb a x E w0):Below w0.heap.size w0 w:=by
 cases hz:x.bz with
 | true=>exact (h.u hz).j3
 | false=>exact (h.i hz).1.j3
theorem ND.low (h:ND w Nb a x E w0):Low w E w0.heap.size [1,2,4,5,14,16]:=by
 cases hz:x.bz with
 | true=>exact (h.u hz).low
 | false=>exact (h.i hz).1.low
theorem ND.cells (h:ND w Nb a x E w0):w.cell? ⟨Nb,0,none⟩=some (.int .i64 (x.p:Int))/\w.cell? ⟨Nb,1,none⟩=some (.int .i64 (x.d:Int))/\w.cell? ⟨Nb,2,none⟩=some (.pointer (some ⟨a 1,0,none⟩))/\w.cell? ⟨Nb,3,none⟩=some (.int .i64 x.Ey)/\w.cell? ⟨Nb,4,none⟩=some (.pointer (if x.bz=true then some ⟨a 0,0,none⟩ else none))/\Nb<w.heap.size :=
 ⟨h.b.cell 0,h.b.cell 1,h.b.cell 2,h.b.cell 3,h.b.cell 4,h.b.lt⟩
def kQ (lp:Option Nat) (a:Nat->Nat) (x:bH) (Nb n0:Nat):Prop := ∀b,lp=some b->n0<=b/\¬NX a x b/\b≠Nb
theorem kQ.none (n0:Nat):kQ none a x Nb n0:=λb e=>by cases e
theorem kQ.v {n0:Nat} (h:kQ lp a x Nb n0) (hz:x.bz=true):j4 lp a x.s n0:=λb e=>⟨(h b e).1,λy hy f=>(h b e).2.1 (.inl ⟨hz,y,hy,f⟩)⟩
theorem kQ.t {n0:Nat} (h:kQ lp a x Nb n0) (hz:x.bz=false):jb lp (a 1) (a 2) n0:=λb e=>⟨λf=>(h b e).2.1 (.inr ⟨hz,.inl f⟩),λf=>(h b e).2.1 (.inr ⟨hz,.inr f⟩),(h b e).1⟩
theorem jK {s:DuS} (h:0<s.bare) (key:Int) (hh:Nat):s.has key hh=s.T.has key hh/\s.bA key hh=s.T.bA key hh:=by
 have h0:s.mF key hh=false:=by unfold DuS.mF;rw [decide_eq_false (by omega)];rfl
 unfold DuS.has DuS.bA;rw [h0];simp
theorem Lp {s:DuS} (h:0<s.bare) (key v:Int) (hh:Nat):s.put key v hh true=s.ny (s.T.aR key v hh)/\s.bB key hh true=s.T.bB key hh/\s.bN key hh true=s.T.bN key hh:=by
 have h0:s.mF key hh=false:=by unfold DuS.mF;rw [decide_eq_false (by omega)];rfl
 have h1:¬s.bare=0:=by omega
 obtain ⟨h2,-⟩:=jK h key hh;refine ⟨?_,?_,?_⟩
 . unfold DuS.put;rw [h0,if_neg h1];simp
 . unfold DuS.bB DuS.fst;rw [h2,if_neg h1];unfold ae.bB;cases s.T.has key hh <;> simp
 . unfold DuS.bN DuS.fst;rw [h2,if_neg h1];unfold ae.bN;cases s.T.has key hh <;> simp
theorem Lr {s:DuS} (h:0<s.bare) (key:Int) (hh:Nat):s.del key hh=s.ny (s.T.eB key hh):=by
 have h0:s.mF key hh=false:=by unfold DuS.mF;rw [decide_eq_false (by omega)];rfl
 unfold DuS.del;rw [h0];simp
theorem ND.Dq (h:ND w Nb a x E w0):Calls Tryz.prog 8 #[.pointer (some ⟨Nb,0,none⟩)] w λe w'=>e = .returned (.tuple #[.int .i64 (x.p:Int),.int .i64 (x.d:Int)])/\Below w.heap.size w w':=by
 obtain ⟨c0,c1,c2,c3,c4,z⟩:=h.cells;clear h c2 c3 c4;go_enter Tryz.func8,Tryz.ntmps8
 go_wp2;refine ag (λ_=>False) #[⟨0,0,16,1,0⟩,⟨1,1,32,16,0⟩,⟨2,3,64,32,0⟩,⟨4,7,128,64,1⟩,⟨0,0,256,1,0⟩,⟨16,16,512,256,0⟩,⟨32,48,1024,512,0⟩,⟨64,112,2048,1024,1⟩,⟨15,15,4,128,0⟩,⟨511,511,8,2048,0⟩] 136 [(0,0),(1,0),(2,0),(3,1),(4,0),(5,0),(6,0),(7,1),(8,0),(9,0)] (by kernel_rfl) (by kernel_rfl) (by kernel_rfl) (by kernel_rfl) (by kernel_rfl) (by kernel_rfl) (λc a d v w h=>by cases d <;> exact h) ?_;refine aj ?_;refine aj ?_;refine aj ?_;refine bW Tryz.underlying3 ?_
 try refine aC ?_;refine aj ?_;refine aj ?_;refine aj ?_
 refine bW Tryz.underlying3 ?_
 try refine aC ?_;refine aj ?_;refine aj ?_
 refine aD ?_;go_wp2;go_ret2;exact ⟨rfl,(aM _ _).drew⟩
theorem ND.Ml (h:ND w Nb a x E w0):Calls Tryz.prog 16 #[.pointer (some ⟨Nb,0,none⟩)] w λe w'=>e = .returned (.bool (x.bz && decide (x.s.left=0)))/\Below w.heap.size w w':=by
 obtain ⟨c0,c1,c2,c3,c4,z⟩:=h.cells;cases hz:x.bz with
 | false =>
  rw [hz] at c4;simp only [Bool.false_eq_true,if_false] at c4;clear h c0 c1 c2 c3;go_enter Tryz.func16,Tryz.ntmps16
  go_wp2;go_ret;exact ⟨rfl,aM _ _⟩
 | true =>
  rw [hz] at c4;simp only [if_true] at c4;have LF:=aa (h.u hz).left;have hd:(x.s.left:Int)=0↔x.s.left=0:=by omega
  obtain ⟨l,hl⟩:=dC x.s.left;rw [<-hl] at LF ⊢;have HL:=aa hl;clear h c0 c1 c2 c3 hl hd;by_cases h0:l=0
  . subst h0;go_enter Tryz.func16,Tryz.ntmps16
    go_wp2_with (go_at_call 55;(with_reducible refine LF.out.mono ?_);rintro e w1 ⟨rfl,hb1⟩)
    go_ret;exact ⟨rfl,hb1⟩
  . have h1:¬ (l:Int)=0:=by omega
    have h2:((l:Int) == 0)=false:=by simpa using h1
    rw [decide_eq_false h0];go_enter Tryz.func16,Tryz.ntmps16
    go_wp2_with (go_at_call 55;(with_reducible refine LF.out.mono ?_);rintro e w1 ⟨rfl,hb1⟩)
    go_ret;exact ⟨rfl,hb1⟩
theorem ND.Nn {Y:Nat->Prop} {T':ae} (h:ND w Nb a x E w0) (hz:x.bz=false) (ht:TN w' (a 1) (a 2) T' E w0) (hc:ah Y w w') (hY:¬Y Nb):ND w' Nb a { x with s:=x.s.ny T'} E w0 :=
 ⟨h.b.aA hc hY,λe=>⟨ht,(h.i hz).2⟩,λe=>(by rw [hz] at e;cases e),⟨h.n.1,λb hb=>h.n.2 b (by
  rcases hb with ⟨e,-⟩ | ⟨e,f⟩
  . rw [hz] at e;cases e
  . exact .inr ⟨hz,f⟩)⟩,h.pd⟩
theorem ND.mH {Y:Nat->Prop} {a':Nat->Nat} {s':DuS} (h:ND w Nb a x E w0) (hz:x.bz=true) (hu:fM w' a' s' false E w0) (hc:ah Y w w') (hY:¬Y Nb) (ha:a' 0=a 0/\a' 1=a 1) (hn:∀b,oU a' s' b->b≠Nb):ND w' Nb a' { x with s:=s'} E w0 :=
 ⟨by rw [ha.1,ha.2];exact h.b.aA hc hY,λe=>(by rw [hz] at e;cases e),λe=>hu,⟨h.n.1,λb hb=>by
  rcases hb with ⟨-,f⟩ | ⟨e,-⟩
  . exact hn b f
  . rw [hz] at e;cases e⟩,h.pd⟩
theorem afV {s:DuS} (h:dW s) (a:Nat->Nat) (key:Int) (hh:Nat):oU a s (s.jE a key hh)/\oU a s (s.gD a key hh):=by
 obtain ⟨⟨y,h1,h2⟩,z,h3,h4⟩:=iL h a key hh;exact ⟨⟨y,h1,h2⟩,z,h3,h4⟩
theorem ND.find (h:ND w Nb a x E w0) (hl:LW w lp mt) (hs:kQ lp a x Nb w0.heap.size) (key:Int) (hh:Nat) (hb:hh<18446744073709551616) (q:Option Addr) (hq:di q lp) (x1 y1 z1:Int) :
 Calls Tryz.prog 18 #[.pointer (some ⟨Nb,0,none⟩),.agg #[.pointer q,.int .i64 x1,.int .i64 y1,.int .i64 z1],.int .u64 key,.int .u64 (hh:Int)] w λe w' =>
  e = .returned (.tuple #[.agg #[.int .u64 (x.s.bA key hh).key,.int .u64 (x.s.bA key hh).val,.int .u64 (x.s.bA key hh).hash],.bool (x.s.has key hh)])/\ND w' Nb a x E w0/\(∃n:Nat,LW w' lp (addN mt x1 y1 z1 n))/\ah (λb=>lp=some b) w w':=by
 have HH:=aa h;have HS:=aa hs;have NE:=aa (show ∀b,w.heap.size<=b->¬lp=some b from λb hb e=>by have:=(hl b e).lt;omega);have nx1:¬lp=some Nb:=λe=>(hs Nb e).2.2 rfl;have nx2:¬lp=some w.heap.size:=NE.out _ (aL _);have NXL:=aa (NX.lt h);obtain ⟨c0,c1,c2,c3,c4,z⟩:=h.cells;cases hz:x.bz with
 | false =>
  rw [hz] at c4;simp only [Bool.false_eq_true,if_false] at c4;obtain ⟨ht,Ka⟩:=h.i hz;obtain ⟨i1,i2⟩:=jK Ka key hh;rw [i1,i2];have FN:=aa (λ(W:World) (hb2:Below w.heap.size w W)=>(TN.lens (ht.later hb2) (hl.later hb2) (hs.t hz)).find key hh hb q hq x1 y1 z1);generalize (x.s.T.bA key hh).key=ek at *
  generalize (x.s.T.bA key hh).val=ev at *
  generalize (x.s.T.bA key hh).hash=eh at *
  generalize x.s.T.has key hh=th at *
  clear h ht hl hs c0 c1 c3 i1 i2;go_enter Tryz.func18,Tryz.ntmps18
  go_wp2;refine bG (λW hW=>?_);have hBW:Below w.heap.size w W:=by rw [hW];exact ((aM _ _).alloc (aL _) _).alloc (by simp) _
  have l8:af W w.heap.size 50 #[.pointer q,.int .i64 x1,.int .i64 y1,.int .i64 z1]:=by rw [hW];exact (af.new _ _ _).alloc _
  have e8:af W (w.heap.size+1) 46 #[.int .u64 0,.int .u64 0,.int .u64 0]:=by rw [hW];exact af.aF (by simp)
  have hzW:w.heap.size+1<W.heap.size:=e8.lt;obtain ⟨l0,l1,l2,l3⟩:W.cell? ⟨w.heap.size,0,none⟩=_/\W.cell? ⟨w.heap.size,1,none⟩=_/\W.cell? ⟨w.heap.size,2,none⟩=_/\W.cell? ⟨w.heap.size,3,none⟩=_:=⟨l8.cell 0,l8.cell 1,l8.cell 2,l8.cell 3⟩
  have d2:=(hBW.cell (p:=⟨Nb,2,none⟩) z).trans c2;have d4:=(hBW.cell (p:=⟨Nb,4,none⟩) z).trans c4;have zN:Nb<W.heap.size:=by omega
  have Dw:=aa hBW;have E8:=aa e8;have Tz:=aa (HH.out.later hBW.drew);clear hW hBW l8 e8 c2 c4;refine ag (λb=>lp=some b) #[⟨0,0,2^25,1,0⟩,⟨1,1,2^26,2^25,0⟩,⟨2,3,2^27,2^26,0⟩,⟨4,7,2^28,2^27,1⟩,⟨0,0,2^29,32,1⟩,⟨0,0,2^30,4,0⟩,⟨0,0,2^31,8,0⟩,⟨120,127,2^32,4026531840,3⟩,⟨128,255,2^33,2^32,0⟩,⟨128,255,2^34,2^32,0⟩,⟨1023,1023,0,(2^8+2^33),3⟩,⟨2047,2047,512,2^34,0⟩] 24 [(0,0),(1,0),(2,0),(3,1),(4,1),(5,0),(6,0),(7,3),(8,0),(9,0),(10,3),(11,0)] (by kernel_rfl) (by kernel_rfl) (by kernel_rfl) (by kernel_rfl) (by kernel_rfl) (by kernel_rfl) (λc a d v w h=>by cases d <;> exact h) ?_;refine aj ?_;refine aj ?_;refine aj ?_;refine bW Tryz.underlying85 ?_
  try refine aC ?_
  refine jR [_,_,_,_] Tryz.underlying50 ?_
  try refine aC ?_;refine aj ?_;refine aj ?_
  refine fA λK hK=>?_;go_wp2_with (go_at_call 58;((with_reducible refine (FN.out _ Dw.out.drew).mono ?_);rintro e w1 ⟨rfl,ht1,hc1⟩;have L1:=aa ht1.m;have E1:=aa (E8.out.drew.aA hc1 (NE.out _ (by omega)));have N1:=aa (Tz.out.aA hc1 (λb e=>(HS.out b e).1) nx1 (λb hb e=>(HS.out b e).2.1 hb));have C1:=aa hc1;have g0:=E1.out.frozen 0;have g1:=E1.out.frozen 1;have g2:=E1.out.frozen 2;obtain ⟨k0,k1,k2⟩:=cells3 E1.out;have zE:=E1.out.lt));refine hK.out _ _ ?_;clear hK K
  try refine aC ?_;refine aj ?_;refine aj ?_
  refine fA λK hK=>?_;go_wp2_with (fail);refine hK.out _ _ ?_;clear hK K
  try refine aC ?_;refine aj ?_
  refine aD ?_;go_wp2;refine aJ (λWf hWf=>?_);have hR:af Wf (w.heap.size+1) 46 #[.int .u64 ek,.int .u64 ev,.int .u64 eh]:=by rw [hWf];exact ((E1.out.set 0 _).set 1 _).set 2 _
  have fI:ah (λb=>b=w.heap.size+1) w1 Wf:=by rw [hWf];exact (((ah.refl _ _).set1 _ _).set1 _ _).set1 _ _
  obtain ⟨r0,r1,r2⟩:=cells3 hR;refine bodyPost_ret (v := .tuple #[.agg #[.int .u64 ek,.int .u64 ev,.int .u64 eh],.bool th]) (by simp [results,Tryz.results18,go_sem,r0,r1,r2]) rfl ⟨rfl,?_,?_,?_⟩
  . exact N1.out.aA fI (λb e=>by have:=HH.out.j3.size;omega) (λe=>by omega) (λb hb e=>by have:=NXL.out b hb;omega)
  . exact ⟨_,L1.out.aA fI (λb e f=>NE.out b (by omega) e)⟩
  . exact ((ah.of_below Dw.out).trans C1.out.bS).trans' fI (λb hb e=>by omega)
 | true =>
  rw [hz] at c4;simp only [if_true] at c4;have FN:=aa (λ(W:World) (hb2:Below w.heap.size w W)=>((h.u hz).later hb2).find (hl.later hb2) (hs.v hz) key hh hb q hq x1 y1 z1);generalize (x.s.bA key hh).key=ek at *
  generalize (x.s.bA key hh).val=ev at *
  generalize (x.s.bA key hh).hash=eh at *
  generalize x.s.has key hh=th at *
  clear h hl hs c0 c1 c3;go_enter Tryz.func18,Tryz.ntmps18
  go_wp2;refine bG (λW hW=>?_);have hBW:Below w.heap.size w W:=by rw [hW];exact ((aM _ _).alloc (aL _) _).alloc (by simp) _
  have l8:af W w.heap.size 50 #[.pointer q,.int .i64 x1,.int .i64 y1,.int .i64 z1]:=by rw [hW];exact (af.new _ _ _).alloc _
  have e8:af W (w.heap.size+1) 46 #[.int .u64 0,.int .u64 0,.int .u64 0]:=by rw [hW];exact af.aF (by simp)
  have hzW:w.heap.size+1<W.heap.size:=e8.lt;obtain ⟨l0,l1,l2,l3⟩:W.cell? ⟨w.heap.size,0,none⟩=_/\W.cell? ⟨w.heap.size,1,none⟩=_/\W.cell? ⟨w.heap.size,2,none⟩=_/\W.cell? ⟨w.heap.size,3,none⟩=_:=⟨l8.cell 0,l8.cell 1,l8.cell 2,l8.cell 3⟩
  have d2:=(hBW.cell (p:=⟨Nb,2,none⟩) z).trans c2;have d4:=(hBW.cell (p:=⟨Nb,4,none⟩) z).trans c4;have zN:Nb<W.heap.size:=by omega
  have Dw:=aa hBW;have E8:=aa e8;have Tz:=aa (HH.out.later hBW.drew);clear hW hBW l8 e8 c2 c4;refine ag (λb=>lp=some b) #[⟨0,0,2^15,1,0⟩,⟨1,1,2^16,2^15,0⟩,⟨2,3,2^17,2^16,0⟩,⟨4,7,2^18,2^17,1⟩,⟨0,0,2^19,32,1⟩,⟨0,0,2^20,4,0⟩,⟨0,0,2^21,8,0⟩,⟨120,127,2^22,3932160,3⟩,⟨128,255,2^23,2^22,0⟩,⟨128,255,2^24,2^22,0⟩,⟨1023,1023,0,(2^8+2^23),3⟩,⟨2047,2047,512,2^24,0⟩] 24 [(0,0),(1,0),(2,0),(3,1),(4,1),(5,0),(6,0),(7,3),(8,0),(9,0),(10,3),(11,0)] (by kernel_rfl) (by kernel_rfl) (by kernel_rfl) (by kernel_rfl) (by kernel_rfl) (by kernel_rfl) (λc a d v w h=>by cases d <;> exact h) ?_;refine aj ?_;refine aj ?_;refine aj ?_;refine bW Tryz.underlying88 ?_
  try refine aC ?_
  refine jR [_,_,_,_] Tryz.underlying50 ?_
  try refine aC ?_;refine aj ?_;refine aj ?_
  refine fA λK hK=>?_;go_wp2_with (go_at_call 57;((with_reducible refine (FN.out _ Dw.out.drew).mono ?_);rintro e w1 ⟨rfl,hu1,hl1,hc1⟩;have L1:=aa hl1;have E1:=aa (E8.out.drew.aA hc1 (NE.out _ (by omega)));have N1:=aa (Tz.out.aA hc1 (λb e=>(HS.out b e).1) nx1 (λb hb e=>(HS.out b e).2.1 hb));have C1:=aa hc1;have g0:=E1.out.frozen 0;have g1:=E1.out.frozen 1;have g2:=E1.out.frozen 2;obtain ⟨k0,k1,k2⟩:=cells3 E1.out;have zE:=E1.out.lt;clear hu1 hl1));refine hK.out _ _ ?_;clear hK K
  try refine aC ?_;refine aj ?_;refine aj ?_
  refine fA λK hK=>?_;go_wp2_with (fail);refine hK.out _ _ ?_;clear hK K
  try refine aC ?_;refine aj ?_
  refine aD ?_;go_wp2;refine aJ (λWf hWf=>?_);have hR:af Wf (w.heap.size+1) 46 #[.int .u64 ek,.int .u64 ev,.int .u64 eh]:=by rw [hWf];exact ((E1.out.set 0 _).set 1 _).set 2 _
  have fI:ah (λb=>b=w.heap.size+1) w1 Wf:=by rw [hWf];exact (((ah.refl _ _).set1 _ _).set1 _ _).set1 _ _
  obtain ⟨r0,r1,r2⟩:=cells3 hR;refine bodyPost_ret (v := .tuple #[.agg #[.int .u64 ek,.int .u64 ev,.int .u64 eh],.bool th]) (by simp [results,Tryz.results18,go_sem,r0,r1,r2]) rfl ⟨rfl,?_,?_,?_⟩
  . exact N1.out.aA fI (λb e=>by have:=HH.out.j3.size;omega) (λe=>by omega) (λb hb e=>by have:=NXL.out b hb;omega)
  . exact ⟨_,L1.out.aA fI (λb e f=>NE.out b (by omega) e)⟩
  . exact ((ah.of_below Dw.out).trans C1.out.bS).trans' fI (λb hb e=>by omega)
end
section
variable {w w' w0:World} {Nb:Nat} {a:Nat->Nat} {x:bH} {E:Nat->Addr} {lp:Option Nat} {mt:aG} {M:Nat}
theorem ND.del (h:ND w Nb a x E w0) (hl:LW w lp mt) (hs:kQ lp a x Nb w0.heap.size) (key:Int) (hh:Nat) (hb:hh<18446744073709551616) (q:Option Addr) (hq:di q lp) (x1 y1 z1:Int) :
 Calls Tryz.prog 10 #[.pointer (some ⟨Nb,0,none⟩),.agg #[.pointer q,.int .i64 x1,.int .i64 y1,.int .i64 z1],.int .u64 key,.int .u64 (hh:Int)] w λe w' =>
  e = .returned (.tuple #[.agg #[.int .u64 (x.s.bA key hh).key,.int .u64 (x.s.bA key hh).val,.int .u64 (x.s.bA key hh).hash],.bool (x.s.has key hh)])/\ND w' Nb a { x with s:=x.s.del key hh} E w0/\(∃n:Nat,LW w' lp (addN mt x1 y1 z1 n))/\ah (λb=>lp=some b\/NX a x b) w w':=by
 have HH:=aa h;have HS:=aa hs;have NXL:=aa (NX.lt h);have NE:=aa (show ∀b,w.heap.size<=b->¬lp=some b from λb hb e=>by have:=(hl b e).lt;omega)
 have NEX:=aa (show ∀b,w.heap.size<=b->¬ (lp=some b\/NX a x b) from λb hb e=>by
  rcases e with e|e
  . exact NE.out b hb e
  . have:=NXL.out b e;omega)
 have nx1:¬ (lp=some Nb\/NX a x Nb):=by
  rintro (e|e)
  . exact (hs Nb e).2.2 rfl
  . exact h.n.2 Nb e rfl
 have nx2:¬ (lp=some w.heap.size\/NX a x w.heap.size):=NEX.out _ (aL _);obtain ⟨c0,c1,c2,c3,c4,z⟩:=h.cells;by_cases hz:x.bz=false
 . rw [if_neg (by rw [hz];decide)] at c4;obtain ⟨ht,Ka⟩:=h.i hz;obtain ⟨i1,i2⟩:=jK Ka key hh;rw [i1,i2,Lr Ka];have FN:=aa (λ(W:World) (hb2:Below w.heap.size w W)=>(TN.lens (ht.later hb2) (hl.later hb2) (hs.t hz)).del key hh hb q hq x1 y1 z1);have NXS:=aa (show ∀b,NX a { x with s:=x.s.ny (x.s.T.eB key hh)} b->NX a x b from λb e=>e);generalize (x.s.T.bA key hh).key=ek at *
   generalize (x.s.T.bA key hh).val=ev at *
   generalize (x.s.T.bA key hh).hash=eh at *
   generalize x.s.T.has key hh=th at *
   have HZ:=aa hz;clear h ht hl hs c0 c1 c3 i1 i2 hz;go_enter Tryz.func10,Tryz.ntmps10
   go_wp2;refine bG (λW hW=>?_);have hBW:Below w.heap.size w W:=by rw [hW];exact ((aM _ _).alloc (aL _) _).alloc (by simp) _
   have l8:af W w.heap.size 50 #[.pointer q,.int .i64 x1,.int .i64 y1,.int .i64 z1]:=by rw [hW];exact (af.new _ _ _).alloc _
   have e8:af W (w.heap.size+1) 46 #[.int .u64 0,.int .u64 0,.int .u64 0]:=by rw [hW];exact af.aF (by simp)
   have hzW:w.heap.size+1<W.heap.size:=e8.lt;obtain ⟨l0,l1,l2,l3⟩:W.cell? ⟨w.heap.size,0,none⟩=_/\W.cell? ⟨w.heap.size,1,none⟩=_/\W.cell? ⟨w.heap.size,2,none⟩=_/\W.cell? ⟨w.heap.size,3,none⟩=_:=⟨l8.cell 0,l8.cell 1,l8.cell 2,l8.cell 3⟩
   obtain ⟨m0,m1,m2⟩:=cells3 e8;have d2:=(hBW.cell (p:=⟨Nb,2,none⟩) z).trans c2;have d4:=(hBW.cell (p:=⟨Nb,4,none⟩) z).trans c4;have zN:Nb<W.heap.size:=by omega
   have Dw:=aa hBW;have E8:=aa e8;have L8:=aa l8;have Tz:=aa (HH.out.later hBW.drew);clear hW hBW l8 e8 c2 c4;refine ag (λb=>lp=some b\/NX a x b) #[⟨0,0,2^25,1,0⟩,⟨1,1,2^26,2^25,0⟩,⟨2,3,2^27,2^26,0⟩,⟨4,7,2^28,2^27,1⟩,⟨0,0,2^29,32,1⟩,⟨0,0,2^30,4,0⟩,⟨0,0,2^31,8,0⟩,⟨120,127,2^32,4026531840,3⟩,⟨128,255,2^33,2^32,0⟩,⟨128,255,2^34,2^32,0⟩,⟨1023,1023,0,(2^8+2^33),3⟩,⟨2047,2047,512,2^34,0⟩] 24 [(0,0),(1,0),(2,0),(3,1),(4,1),(5,0),(6,0),(7,3),(8,0),(9,0),(10,3),(11,0)] (by kernel_rfl) (by kernel_rfl) (by kernel_rfl) (by kernel_rfl) (by kernel_rfl) (by kernel_rfl) (λc a d v w h=>by cases d <;> exact h) ?_;refine aj ?_;refine aj ?_;refine aj ?_;refine bW Tryz.underlying85 ?_
   try refine aC ?_
   refine jR [_,_,_,_] Tryz.underlying50 ?_
   try refine aC ?_;refine aj ?_;refine aj ?_
   refine fA λK hK=>?_;go_wp2_with (go_at_call 41;((with_reducible refine (FN.out _ Dw.out.drew).mono ?_);rintro e w1 ⟨rfl,ht1,hcc⟩;have hc1:ah (λb=>lp=some b\/NX a x b) _ w1:=hcc.mono (λb _ e=>by rcases e with e|e|e;exact .inl e;exact .inr (.inr ⟨HZ.out,.inl e⟩);exact .inr (.inr ⟨HZ.out,.inr e⟩));have L1:=aa ht1.m;have E1:=aa (E8.out.drew.aA hc1 (NEX.out _ (by omega)));have N1:=aa (Tz.out.Nn HZ.out ht1.Ay hc1 nx1);have C1:=aa hc1;have g0:=E1.out.frozen 0;have g1:=E1.out.frozen 1;have g2:=E1.out.frozen 2;obtain ⟨k0,k1,k2⟩:=cells3 E1.out;have zE:=E1.out.lt;clear ht1 hcc));refine hK.out _ _ ?_;clear hK K
   try refine aC ?_;refine aj ?_;refine aj ?_
   refine fA λK hK=>?_;go_wp2_with (fail);refine hK.out _ _ ?_;clear hK K
   try refine aC ?_;refine aj ?_
   refine aD ?_;go_wp2;refine aJ (λWf hWf=>?_);have hR:af Wf (w.heap.size+1) 46 #[.int .u64 ek,.int .u64 ev,.int .u64 eh]:=by rw [hWf];exact ((E1.out.set 0 _).set 1 _).set 2 _
   have fI:ah (λb=>b=w.heap.size+1) w1 Wf:=by rw [hWf];exact (((ah.refl _ _).set1 _ _).set1 _ _).set1 _ _
   obtain ⟨r0,r1,r2⟩:=cells3 hR;refine bodyPost_ret (v := .tuple #[.agg #[.int .u64 ek,.int .u64 ev,.int .u64 eh],.bool th]) (by simp [results,Tryz.results10,go_sem,r0,r1,r2]) rfl ⟨rfl,?_,?_,?_⟩
   . exact N1.out.aA fI (λb e=>by have:=HH.out.j3.size;omega) (λe=>by omega) (λb hb e=>by have:=NXL.out b (NXS.out b hb);omega)
   . exact ⟨_,L1.out.aA fI (λb e f=>NE.out b (by omega) e)⟩
   . exact ((ah.of_below Dw.out).trans C1.out.bS).trans' fI (λb hb e=>by omega)
 . have hz:x.bz=true:=by simpa using hz
   rw [if_pos hz] at c4;have FN:=aa (λ(W:World) (hb2:Below w.heap.size w W)=>((h.u hz).later hb2).del (hl.later hb2) (hs.v hz) key hh hb q hq x1 y1 z1);have SEL:=aa (afV (h.u hz).ok a key hh)
   have NXS:=aa (show ∀b,NX a { x with s:=x.s.del key hh} b->NX a x b from λb e=>by
    rcases e with ⟨e1,e2⟩|e
    . exact .inl ⟨e1,(oN (Fz x.s key hh) b).1 e2⟩
    . exact .inr e)
   generalize (x.s.bA key hh).key=ek at *
   generalize (x.s.bA key hh).val=ev at *
   generalize (x.s.bA key hh).hash=eh at *
   generalize x.s.has key hh=th at *
   have HZ:=aa hz;clear h hl hs c0 c1 c3 hz;go_enter Tryz.func10,Tryz.ntmps10
   go_wp2;refine bG (λW hW=>?_);have hBW:Below w.heap.size w W:=by rw [hW];exact ((aM _ _).alloc (aL _) _).alloc (by simp) _
   have l8:af W w.heap.size 50 #[.pointer q,.int .i64 x1,.int .i64 y1,.int .i64 z1]:=by rw [hW];exact (af.new _ _ _).alloc _
   have e8:af W (w.heap.size+1) 46 #[.int .u64 0,.int .u64 0,.int .u64 0]:=by rw [hW];exact af.aF (by simp)
   have hzW:w.heap.size+1<W.heap.size:=e8.lt;obtain ⟨l0,l1,l2,l3⟩:W.cell? ⟨w.heap.size,0,none⟩=_/\W.cell? ⟨w.heap.size,1,none⟩=_/\W.cell? ⟨w.heap.size,2,none⟩=_/\W.cell? ⟨w.heap.size,3,none⟩=_:=⟨l8.cell 0,l8.cell 1,l8.cell 2,l8.cell 3⟩
   obtain ⟨m0,m1,m2⟩:=cells3 e8;have d2:=(hBW.cell (p:=⟨Nb,2,none⟩) z).trans c2;have d4:=(hBW.cell (p:=⟨Nb,4,none⟩) z).trans c4;have zN:Nb<W.heap.size:=by omega
   have Dw:=aa hBW;have E8:=aa e8;have L8:=aa l8;have Tz:=aa (HH.out.later hBW.drew);clear hW hBW l8 e8 c2 c4;refine ag (λb=>lp=some b\/NX a x b) #[⟨0,0,2^15,1,0⟩,⟨1,1,2^16,2^15,0⟩,⟨2,3,2^17,2^16,0⟩,⟨4,7,2^18,2^17,1⟩,⟨0,0,2^19,32,1⟩,⟨0,0,2^20,4,0⟩,⟨0,0,2^21,8,0⟩,⟨120,127,2^22,3932160,3⟩,⟨128,255,2^23,2^22,0⟩,⟨128,255,2^24,2^22,0⟩,⟨1023,1023,0,(2^8+2^23),3⟩,⟨2047,2047,512,2^24,0⟩] 24 [(0,0),(1,0),(2,0),(3,1),(4,1),(5,0),(6,0),(7,3),(8,0),(9,0),(10,3),(11,0)] (by kernel_rfl) (by kernel_rfl) (by kernel_rfl) (by kernel_rfl) (by kernel_rfl) (by kernel_rfl) (λc a d v w h=>by cases d <;> exact h) ?_;refine aj ?_;refine aj ?_;refine aj ?_;refine bW Tryz.underlying88 ?_
   try refine aC ?_
   refine jR [_,_,_,_] Tryz.underlying50 ?_
   try refine aC ?_;refine aj ?_;refine aj ?_
   refine fA λK hK=>?_;go_wp2_with (go_at_call 40;((with_reducible refine (FN.out _ Dw.out.drew).mono ?_);rintro e w1 ⟨rfl,hu1,hl1,hcc⟩;have hc1:ah (λb=>lp=some b\/NX a x b) _ w1:=hcc.mono (λb _ e=>by rcases e with e|e|e;exact .inl e;exact .inr (.inl ⟨HZ.out,by rw [e];exact SEL.out.1⟩);exact .inr (.inl ⟨HZ.out,by rw [e];exact SEL.out.2⟩));have L1:=aa hl1;have E1:=aa (E8.out.drew.aA hc1 (NEX.out _ (by omega)));have N1:=aa (Tz.out.mH HZ.out hu1 hc1 nx1 ⟨rfl,rfl⟩ (λb e=>HH.out.n.2 b (.inl ⟨HZ.out,(oN (Fz x.s key hh) b).1 e⟩)));have C1:=aa hc1;have g0:=E1.out.frozen 0;have g1:=E1.out.frozen 1;have g2:=E1.out.frozen 2;obtain ⟨k0,k1,k2⟩:=cells3 E1.out;have zE:=E1.out.lt;clear hu1 hl1 hcc));refine hK.out _ _ ?_;clear hK K
   try refine aC ?_;refine aj ?_;refine aj ?_
   refine fA λK hK=>?_;go_wp2_with (fail);refine hK.out _ _ ?_;clear hK K
   try refine aC ?_;refine aj ?_
   refine aD ?_;go_wp2;refine aJ (λWf hWf=>?_);have hR:af Wf (w.heap.size+1) 46 #[.int .u64 ek,.int .u64 ev,.int .u64 eh]:=by rw [hWf];exact ((E1.out.set 0 _).set 1 _).set 2 _
   have fI:ah (λb=>b=w.heap.size+1) w1 Wf:=by rw [hWf];exact (((ah.refl _ _).set1 _ _).set1 _ _).set1 _ _
   obtain ⟨r0,r1,r2⟩:=cells3 hR;refine bodyPost_ret (v := .tuple #[.agg #[.int .u64 ek,.int .u64 ev,.int .u64 eh],.bool th]) (by simp [results,Tryz.results10,go_sem,r0,r1,r2]) rfl ⟨rfl,?_,?_,?_⟩
   . exact N1.out.aA fI (λb e=>by have:=HH.out.j3.size;omega) (λe=>by omega) (λb hb e=>by have:=NXL.out b (NXS.out b hb);omega)
   . exact ⟨_,L1.out.aA fI (λb e f=>NE.out b (by omega) e)⟩
   . exact ((ah.of_below Dw.out).trans C1.out.bS).trans' fI (λb hb e=>by omega)
theorem ND.ain (h:ND w Nb a x E w0) (hz:x.bz=true) (hl:LW w lp mt) (hs:kQ lp a x Nb w0.heap.size) (key v:Int) (hh:Nat) (hb:hh<18446744073709551616) (more:Bool) (q:Option Addr) (hq:di q lp) (x1 y1 z1:Int) :
 Calls Tryz.prog 12 #[.pointer (some ⟨Nb,0,none⟩),.agg #[.pointer q,.int .i64 x1,.int .i64 y1,.int .i64 z1],.agg #[.int .u64 key,.int .u64 v,.int .u64 (hh:Int)],.bool more] w λe w' =>
  e = .returned (.tuple #[.bool (x.s.bB key hh more),jF E (x.s.bN key hh more)])/\ND w' Nb a { x with s:=x.s.put key v hh more} E w0/\(∃n:Nat,LW w' lp (addN mt x1 y1 z1 n))/\ah (λb=>lp=some b\/NX a x b) w w':=by
 have HH:=aa h;have HS:=aa hs;have NXL:=aa (NX.lt h);have NE:=aa (show ∀b,w.heap.size<=b->¬lp=some b from λb hb e=>by have:=(hl b e).lt;omega)
 have NEX:=aa (show ∀b,w.heap.size<=b->¬ (lp=some b\/NX a x b) from λb hb e=>by
  rcases e with e|e
  . exact NE.out b hb e
  . have:=NXL.out b e;omega)
 have nx1:¬ (lp=some Nb\/NX a x Nb):=by
  rintro (e|e)
  . exact (hs Nb e).2.2 rfl
  . exact h.n.2 Nb e rfl
 have nx2:¬ (lp=some w.heap.size\/NX a x w.heap.size):=NEX.out _ (aL _);have nx3:¬ (lp=some (w.heap.size+1)\/NX a x (w.heap.size+1)):=NEX.out _ (by omega);obtain ⟨c0,c1,c2,c3,c4,z⟩:=h.cells;rw [if_pos hz] at c4;have FN:=aa (λ(W:World) (hb2:Below w.heap.size w W)=>((h.u hz).later hb2).put (hl.later hb2) (hs.v hz) key v hh hb more q hq x1 y1 z1);have SEL:=aa (afV (h.u hz).ok a key hh);generalize x.s.bB key hh more=pb at *
 generalize jF E (x.s.bN key hh more)=pe at *
 have HZ:=aa hz;clear h hl hs c0 c1 c3 hz;go_enter Tryz.func12,Tryz.ntmps12
 go_wp2;refine bG (λW hW=>?_);have hBW:Below w.heap.size w W:=by rw [hW];exact ((aM _ _).alloc (aL _) _).alloc (by simp) _
 have l8:af W w.heap.size 50 #[.pointer q,.int .i64 x1,.int .i64 y1,.int .i64 z1]:=by rw [hW];exact (af.new _ _ _).alloc _
 have e8:af W (w.heap.size+1) 46 #[.int .u64 key,.int .u64 v,.int .u64 (hh:Int)]:=by rw [hW];exact af.aF (by simp)
 have hzW:w.heap.size+1<W.heap.size:=e8.lt;obtain ⟨l0,l1,l2,l3⟩:W.cell? ⟨w.heap.size,0,none⟩=_/\W.cell? ⟨w.heap.size,1,none⟩=_/\W.cell? ⟨w.heap.size,2,none⟩=_/\W.cell? ⟨w.heap.size,3,none⟩=_:=⟨l8.cell 0,l8.cell 1,l8.cell 2,l8.cell 3⟩
 obtain ⟨m0,m1,m2⟩:=cells3 e8;have d2:=(hBW.cell (p:=⟨Nb,2,none⟩) z).trans c2;have d4:=(hBW.cell (p:=⟨Nb,4,none⟩) z).trans c4;have zN:Nb<W.heap.size:=by omega
 have Dw:=aa hBW;have E8:=aa e8;have L8:=aa l8;have Tz:=aa (HH.out.later hBW.drew);clear hW hBW l8 e8 c2 c4;refine ag (λb=>lp=some b\/NX a x b) #[⟨0,0,2^19,1,0⟩,⟨1,1,2^20,2^19,0⟩,⟨2,3,2^21,2^20,0⟩,⟨4,7,2^22,2^21,1⟩,⟨0,0,2^23,32,1⟩,⟨0,0,2^24,64,1⟩,⟨0,0,2^25,8,0⟩,⟨120,127,2^26,62914560,3⟩,⟨128,255,2^27,2^26,0⟩,⟨128,255,2^28,2^26,0⟩,⟨1023,1023,256,2^27,0⟩,⟨2047,2047,512,2^28,0⟩] 56 [(0,0),(1,0),(2,0),(3,1),(4,1),(5,1),(6,0),(7,3),(8,0),(9,0),(10,0),(11,0)] (by kernel_rfl) (by kernel_rfl) (by kernel_rfl) (by kernel_rfl) (by kernel_rfl) (by kernel_rfl) (λc a d v w h=>by cases d <;> exact h) ?_;refine aj ?_;refine aj ?_;refine aj ?_;refine bW Tryz.underlying88 ?_
 try refine aC ?_
 refine jR [_,_,_,_] Tryz.underlying50 ?_
 try refine aC ?_
 refine jR [_,_,_] Tryz.underlying46 ?_
 try refine aC ?_;refine aj ?_
 refine fA λK hK=>?_;go_wp2_with (go_at_call 42;((with_reducible refine (FN.out _ Dw.out.drew).mono ?_);rintro e w1 ⟨rfl,hu1,hl1,hcc⟩;have hc1:ah (λb=>lp=some b\/NX a x b) _ w1:=hcc.mono (λb _ e=>by rcases e with e|e|e;exact .inl e;exact .inr (.inl ⟨HZ.out,by rw [e];exact SEL.out.1⟩);exact .inr (.inl ⟨HZ.out,by rw [e];exact SEL.out.2⟩));have L1:=aa hl1;have N1:=aa (Tz.out.mH HZ.out hu1 hc1 nx1 ⟨rfl,rfl⟩ (λb e=>HH.out.n.2 b (.inl ⟨HZ.out,(oN (pF x.s key v hh more) b).1 e⟩)));have C1:=aa hc1;clear hu1 hl1 hcc));refine hK.out _ _ ?_;clear hK K
 try refine aC ?_;refine aj ?_;refine aj ?_;refine aj ?_;refine aj ?_
 refine aD ?_;go_wp2;go_ret2;exact ⟨rfl,N1.out,⟨_,L1.out⟩,(ah.of_below Dw.out).trans C1.out.bS⟩
end
section
variable {w w' w0:World} {Nb:Nat} {a:Nat->Nat} {x:bH} {E:Nat->Addr} {lp:Option Nat} {mt:aG} {M:Nat}
theorem Da {s:DuS} (h:0<s.bare) {key:Int} {hh:Nat} (hq:s.T.has key hh=true) (v:Int) (more:Bool):s.put key v hh more=s.ny (s.T.aR key v hh)/\s.bB key hh more=false/\s.bN key hh more=0:=by
 have h0:s.mF key hh=false:=by unfold DuS.mF;rw [decide_eq_false (by omega)];rfl
 obtain ⟨h2,-⟩:=jK h key hh;refine ⟨?_,?_,?_⟩
 . unfold DuS.put;rw [h0,hq];simp
 . unfold DuS.bB;rw [h2,hq];simp
 . unfold DuS.bN;rw [h2,hq];simp
theorem EA {s:DuS} (h:0<s.bare) {key:Int} {hh:Nat} (hq:s.T.has key hh=false) (v:Int):s.put key v hh false=s/\s.bB key hh false=false/\s.bN key hh false=2:=by
 have h0:s.mF key hh=false:=by unfold DuS.mF;rw [decide_eq_false (by omega)];rfl
 obtain ⟨h2,-⟩:=jK h key hh;refine ⟨?_,?_,?_⟩
 . unfold DuS.put;rw [h0,hq];simp
 . unfold DuS.bB;simp
 . unfold DuS.bN;rw [h2,hq];simp
theorem ND.aip (h:ND w Nb a x E w0) (hz:x.bz=false) (hl:LW w lp mt) (hs:kQ lp a x Nb w0.heap.size) (key v:Int) (hh:Nat) (hb:hh<18446744073709551616) (more:Bool) (q:Option Addr) (hq:di q lp) (x1 y1 z1:Int) :
 Calls Tryz.prog 12 #[.pointer (some ⟨Nb,0,none⟩),.agg #[.pointer q,.int .i64 x1,.int .i64 y1,.int .i64 z1],.agg #[.int .u64 key,.int .u64 v,.int .u64 (hh:Int)],.bool more] w λe w' =>
  e = .returned (.tuple #[.bool (x.s.bB key hh more),jF E (x.s.bN key hh more)])/\ND w' Nb a { x with s:=x.s.put key v hh more} E w0/\(∃n:Nat,LW w' lp (addN mt x1 y1 z1 n))/\ah (λb=>lp=some b\/NX a x b) w w':=by
 have HH:=aa h;have HS:=aa hs;have HL:=aa hl;obtain ⟨ht,Ka⟩:=h.i hz;have HT:=aa ht;have SK:=aa (λ(w':World) (h':TN w' (a 1) (a 2) x.s.T E w0) (hl':LW w' lp mt)=>TN.oq h' hl' (hs.t hz) key hh hb q hq x1 y1 z1);have EN:=aa (λ(fp:Option Addr) (w':World) (h':TN w' (a 1) (a 2) x.s.T E w0)=>TN.entry h' key hh fp (x.s.T.jU key hh));have hN0:=h.n.1;have hz0:=h.j3.size;obtain ⟨c0,c1,c2,c3,c4,z⟩:=h.cells;rw [if_neg (by rw [hz];decide)] at c4;have a1z:a 1<w.heap.size:=ht.Sg;have a2z:a 2<w.heap.size:=ht.Sd;have hn1:¬lp=some Nb:=λe=>(hs Nb e).2.2 rfl;have HZ:=aa hz;have HBA:=aa Ka;obtain ⟨i1,i2⟩:=jK Ka key hh;have HI1:=aa i1;have NBN:=aa (show a 1≠Nb/\a 2≠Nb from ⟨h.n.2 _ (.inr ⟨hz,.inl rfl⟩),h.n.2 _ (.inr ⟨hz,.inr rfl⟩)⟩);unfold dO at *
 unfold ai.pg at EN;clear h hl hs ht c0 c1 c3 i1 i2 hz Ka;generalize hap:x.s.T.mI (a 2) key hh=ap at *
 generalize haz:x.s.T.iQ key hh=az at *
 generalize hfz:x.s.T.jU key hh=fz at *
 obtain ⟨hs',hhs⟩:=dC (x.s.T.has key hh);rw [<-hhs] at EN;obtain ⟨k0,hk0⟩:=dC ((x.s.T.bA key hh).key);obtain ⟨k1,hk1⟩:=dC ((x.s.T.bA key hh).val);obtain ⟨k2,hk2⟩:=dC ((x.s.T.bA key hh).hash);rw [<-hk0,<-hk1,<-hk2] at EN;have HAP:=aa hap;have HAZ:=aa haz;have HFZ:=aa hfz;have HHS:=aa hhs;clear hap haz hfz hhs hk0 hk1 hk2;obtain ⟨pb,hpb⟩:=dC (x.s.bB key hh more);obtain ⟨pe,hpe⟩:=dC (jF E (x.s.bN key hh more));obtain ⟨ss,hss⟩:=dC (x.s.put key v hh more);rw [<-hpb,<-hpe,<-hss];have HPB:=aa hpb;have HPE:=aa hpe;have HSS:=aa hss;clear hpb hpe hss;go_enter Tryz.func12,Tryz.ntmps12
 go_upto_region 3 with (fail)
 refine bG (λw1 hw1=>?_);have hb1:Below w.heap.size w w1:=by rw [hw1];exact ((aM _ _).alloc (aL _) _).alloc (by simp) _
 obtain ⟨B5,jL⟩:=dC w.heap.size;have X5:=aa (show af w1 B5 50 #[.pointer q,.int .i64 x1,.int .i64 y1,.int .i64 z1] by rw [hw1,jL];exact (af.new _ _ _).alloc _);have X6:=aa (show af w1 (B5+1) 46 #[.int .u64 key,.int .u64 v,.int .u64 (hh:Int)] by rw [hw1,jL];exact af.aF (by simp));have T1:=aa (HT.out.later hb1);have L1:=aa (HL.out.later hb1);have abM:B5+1+1<=w1.heap.size:=by rw [hw1,jL];simp
 have Sz:w.heap.size<=B5:=Nat.le_of_eq jL.symm;have ik:∀b,B5<=b->¬lp=some b:=λb hb e=>by have:=(HL.out b e).lt;omega
 have HLZ:=aa (show ∀b,lp=some b->b<w1.heap.size from λb e=>(L1.out b e).lt);have d2:=(hb1.cell (p:=⟨Nb,2,none⟩) z).trans c2;have zN:Nb<w1.heap.size:=by have:=hb1.size;omega
 rw [<-jL];replace jL:=aa jL;replace hw1:=aa hw1;have HB1:=aa hb1;clear hb1;obtain ⟨l0,l1,l2,l3⟩:=iq X5.out;obtain ⟨m0,m1,m2⟩:=cells3 X6.out;have zl:=X5.out.lt;have zm:=X6.out.lt;have QN:¬lp=some B5:=ik _ (aL _);have hn6:¬lp=some (B5+1):=ik _ (by omega);go_cut [10] (λv10 wx => ∃ (P:Nat) (fp:Option Addr),v10 = .pointer (some ⟨P,0,none⟩)/\(0<=fz->fp=some ⟨a 2,x.s.T.dM key hh*25,none⟩)/\w1.heap.size<=P/\af wx P 100 #[.pointer (some ⟨a 1,0,none⟩),.int .u64 key,.int .u64 (hh:Int),.pointer ap,.int .i64 az,.pointer fp,.int .i64 fz]/\TN wx (a 1) (a 2) x.s.T E w0/\LW wx lp (addN mt x1 y1 z1 (x.s.T.looks key hh))/\ah (λb=>lp=some b) w1 wx)
 case first =>
  refine cZ (λb=>lp=some b) #[⟨0,0,2^29,1,0⟩,⟨1,1,2^30,2^29,0⟩,⟨2,3,2^31,2^30,0⟩,⟨4,7,2^32,2^31,1⟩,⟨0,0,2^33,32,1⟩,⟨0,0,2^34,64,0⟩,⟨32,32,2^35,2^34,1⟩,⟨0,0,2^36,64,0⟩,⟨128,128,2^37,2^36,1⟩,⟨344,511,2^38,184683593728,3⟩,⟨0,0,1024,0,2⟩,⟨2047,2047,0,(2^10+2^38),3⟩] 344 (.step 0 0 (.step 1 0 (.step 2 0 (.step 3 1 (.step 4 1 (.step 5 0 (.step 6 1 (.step 7 0 (.step 8 1 (.fork (.alt 9 (.step 10 2 (.step 11 3 bu.done)) (.alt 10 (.step 9 3 (.step 11 3 bu.done)) bu.none)))))))))))) (by kernel_rfl) (by kernel_rfl) (by kernel_rfl) (by kernel_rfl) (by kernel_rfl) (by kernel_rfl) (λc a d v w h=>by cases d <;> exact h) ?_;refine cO ?_;refine cO ?_;refine cO ?_;refine qV Tryz.underlying85 ?_
  try refine bF ?_
  refine ztL [_,_,_,_] Tryz.underlying50 ?_
  try refine bF ?_;refine cO ?_
  refine qV Tryz.underlying38 ?_
  try refine bF ?_;refine cO ?_
  refine qV Tryz.underlying38 ?_
  try refine bF ?_
  refine BH (λK hK=>?_) λK hK=>?_
  (go_wp2_with ((go_at_call 43;(with_reducible refine (SK.out _ (by exact T1.out.later (aM _ _).drew) (by exact L1.out.later (aM _ _).drew)).mono ?_);rintro e w9 ⟨MU,rfl,qZ,ht9,qY,dH⟩;have C9:Hid (ah (λb=>lp=some b) w1 w9):=aa (by exact dH.bS);have T9:=aa ht9;have L9:=aa qY;have z9:=C9.out.size;(try have P9:Hid (af w9 w1.heap.size 100 #[.pointer none,.int .u64 0,.int .u64 0,.pointer none,.int .i64 0,.pointer none,.int .i64 0]):=aa (af.aA (af.drew (af.new w1 _ _)) dH (ik _ (by omega))));(try have p9:=bY P9.out);(try have MO:=p9.1);(try have MN:=p9.2.1);(try have MM:=p9.2.2.1);(try have ML:=p9.2.2.2.1);(try have MJ:=p9.2.2.2.2.1);(try have MI:=p9.2.2.2.2.2.1);(try have MH:=p9.2.2.2.2.2.2);(try clear p9);(try have UA:=λj=>P9.out.frozen j);(try have TZ:=P9.out.lt)));refine eQ hK (h:=?_);clear hK K)
  try refine bF ?_
  refine qU λK hK=>?_;go_wp2_with (fail);refine eQ hK (h:=?_);clear hK K
  try refine bF ?_
  refine iC λK hK=>?_;go_wp2_with (fail);refine hK.out _ _ ?_;clear hK K
  try refine bF ?_
  refine bP ?_
  rotate_left 1
  (go_wp2_with (fail);refine eQ hK (h:=?_);clear hK K)
  try refine bF ?_
  refine iC λK hK=>?_;go_wp2_with ((go_at_call 43;(with_reducible refine (SK.out _ (by exact T1.out.later ((aM _ _).alloc (aL _) _).drew) (by exact L1.out.later ((aM _ _).alloc (aL _) _).drew)).mono ?_);rintro e w9 ⟨MU,rfl,qZ,ht9,qY,dH⟩;have C9:Hid (ah (λb=>lp=some b) w1 w9):=aa (by exact (((ah.refl _ w1).alloc _).drew).trans dH);have T9:=aa ht9;have L9:=aa qY;have z9:=C9.out.size;(try have P9:Hid (af w9 w1.heap.size 100 #[.pointer none,.int .u64 0,.int .u64 0,.pointer none,.int .i64 0,.pointer none,.int .i64 0]):=aa (af.aA (af.drew (af.new w1 _ _)) dH (ik _ (by omega))));(try have p9:=bY P9.out);(try have MO:=p9.1);(try have MN:=p9.2.1);(try have MM:=p9.2.2.1);(try have ML:=p9.2.2.2.1);(try have MJ:=p9.2.2.2.2.1);(try have MI:=p9.2.2.2.2.2.1);(try have MH:=p9.2.2.2.2.2.2);(try clear p9);(try have UA:=λj=>P9.out.frozen j);(try have TZ:=P9.out.lt)));refine hK.out _ _ ?_;clear hK K
  try refine bF ?_
  refine iC λK hK=>?_;go_wp2_with (fail);refine hK.out _ _ ?_;clear hK K
  try refine bF ?_
  refine bP ?_
  rotate_left 1
  rotate_right 2
  all_goals (go_wp2;go_meet)
  all_goals
   first
    | with_reducible exact ⟨_,_,rfl,qZ,by omega,af.new _ _ _,T9.out.later ((aM _ _).alloc (aL _) _),L9.out.later ((aM _ _).alloc (aL _) _),C9.out.alloc _⟩
    | with_reducible exact ⟨_,_,rfl,qZ,aL _,rz P9.out _ _ _ _ _ _ _,T9.out.aA (jG _ _ _ _ _ _ _ _ _) (λb e=>by omega) (λe=>by omega) (λe=>by omega) (λb e=>by cases e),L9.out.aA (jG _ _ _ _ _ _ _ _ _) (λb e e2=>by have:=HLZ.out b e;omega),C9.out.trans' (jG _ _ _ _ _ _ _ _ _) (λb hb e=>by omega)⟩
 case rest =>
  obtain ⟨P,fp,rfl,hfp,hPz,hP,hT,hL,hC⟩:=hcut;obtain ⟨u,hu⟩:=dC wc;subst hu;have Rh:=aa hfp;have PC:=aa hP;have TC:=aa hT;have LC:=aa hL;have CC:=aa hC;have X6C:=aa (X6.out.aA hC hn6);have NC:=aa ((HH.out.later HB1.out).aA hC (λb e=>(HS.out b e).1) hn1 (λb hb e=>(HS.out b e).2.1 hb));obtain ⟨e0,e1,e2,e3,e4,e5,e6⟩:=bY hP;have zP:=hP.lt;obtain ⟨m0,m1,m2⟩:=cells3 X6C.out;have zm:=X6C.out.lt;have zc1:=hC.size;have zb1:=HB1.out.size;have anu:=aa (show ∀b,lp=some b->b<w.heap.size from λb e=>(HL.out b e).lt);clear hfp hP hT hL hC l0 l1 l2 l3 zl X5 X6 T1 L1 d2 zN c2 c4;cases hs' with
  | true =>
   have hq:=HHS.out.symm;obtain ⟨p1,p2,p3⟩:=Da HBA.out hq v more;have Q1:=aa (HSS.out.trans p1);have Q2:=aa (HPB.out.trans p2);have Q3:=aa (show pe = .nilIface from by rw [HPE.out,p3,fG]);have RP:=aa (λ(w':World) (h':TN w' (a 1) (a 2) x.s.T E w0)=>TN.replace h' key v hh hb fp fz hq);unfold dO at RP;rw [HAP.out,HAZ.out] at RP;clear p1 p2 p3 hq
   go_wp2_with (first
    | (go_at_call 44;(with_reducible refine (EN.out fp _ TC.out).mono ?_);rintro e w2 ⟨rfl,hb2⟩;have P2:=PC.out.below hb2 PC.out.lt;obtain ⟨f0,f1,f2,f3,f4,f5,f6⟩:=bY P2;have M6:=P2.lt;have X62:=X6C.out.below hb2 X6C.out.lt;obtain ⟨m20,m21,m22⟩:=cells3 X62;have zm2:=X62.lt;have T2:=aa (TC.out.later hb2);have L2:=aa (LC.out.later hb2);have N2:=aa (NC.out.later hb2);have CW:=aa (((ah.of_below HB1.out).trans CC.out).au hb2);have z2:=hb2.size;clear hb2)
    | (go_at_call 45;((with_reducible refine (RP.out _ (T2.out.later ((aM _ _).alloc (aL _) _))).mono ?_);rintro e w3 ⟨rfl,ht3,hc3⟩;have T3:=aa ht3;have C3:=aa hc3;clear ht3 hc3)))
   go_ret2;exact ⟨by rw [Q2.out,Q3.out];rfl,by rw [Q1.out];exact (N2.out.later ((aM _ _).alloc (aL _) _)).Nn HZ.out T3.out C3.out (λe=>by rcases e with e|e;exact NBN.out.1 e.symm;exact NBN.out.2 e.symm),⟨_,(L2.out.later ((aM _ _).alloc (aL _) _)).aA C3.out (λb e f=>(HS.out b e).2.1 (.inr ⟨HZ.out,f⟩))⟩,((CW.out.mono (λ_ _ e => .inl e)).au ((aM _ _).alloc (aL _) _)).trans (C3.out.mono (λ_ _ e => .inr (.inr ⟨HZ.out,e⟩)))⟩
  | false =>
   have hq:=HHS.out.symm;cases more with
   | false =>
    obtain ⟨p1,p2,p3⟩:=EA HBA.out hq v;have Q1:=aa (HSS.out.trans p1);have Q2:=aa (HPB.out.trans p2);have Q3:=aa (show pe = .iface 259 (.pointer (some (E 2))) from by rw [HPE.out,p3];rfl);have EF:=aa (λ(w':World) (h':TN w' (a 1) (a 2) x.s.T E w0)=>(show w'.cell? ⟨1,0,none⟩=some (.iface 259 (.pointer (some (E 2)))) from h'.low.e 2 (by decide)));have GZ:=aa (λ(w':World) (h':TN w' (a 1) (a 2) x.s.T E w0)=>qx _ _ (show w'.cell? ⟨1,0,none⟩=some (aO E 2) from h'.low.e 2 (by decide)));clear p1 p2 p3 hq
    go_wp2_with (go_at_call 44;(with_reducible refine (EN.out fp _ TC.out).mono ?_);rintro e w2 ⟨rfl,hb2⟩;have P2:=PC.out.below hb2 PC.out.lt;obtain ⟨f0,f1,f2,f3,f4,f5,f6⟩:=bY P2;have M6:=P2.lt;have X62:=X6C.out.below hb2 X6C.out.lt;obtain ⟨m20,m21,m22⟩:=cells3 X62;have zm2:=X62.lt;have T2:=aa (TC.out.later hb2);have L2:=aa (LC.out.later hb2);have N2:=aa (NC.out.later hb2);have CW:=aa (((ah.of_below HB1.out).trans CC.out).au hb2);have z2:=hb2.size;clear hb2)
    refine bG (λW hW=>?_);have hBW:Below w2.heap.size w2 W:=by rw [hW];exact (aM _ _).alloc (aL _) _
    have g2:=EF.out _ (T2.out.later hBW);have gz:=GZ.out _ (T2.out.later hBW);have Dw:=aa hBW;clear hW hBW;refine ag (λ_=>False) #[⟨0,0,2^51,0,1⟩,⟨0,0,256,0,0⟩,⟨3,3,512,2^51,0⟩] 1 [(0,1),(1,0),(2,0)] (by kernel_rfl) (by kernel_rfl) (by kernel_rfl) (by kernel_rfl) (by kernel_rfl) (by kernel_rfl) (λc a d v w h=>by cases d <;> exact h) ?_;refine bW Tryz.underlying27 ?_
    try refine aC ?_;refine aj ?_;refine aj ?_
    refine aD ?_;go_wp2;go_ret2;exact ⟨by rw [Q2.out,Q3.out];rfl,by rw [Q1.out];exact (N2.out.later Dw.out).later (aM _ _).drew,⟨_,(L2.out.later Dw.out).later (aM _ _).drew⟩,(((CW.out.mono (λ_ _ e => .inl e)).au Dw.out)).drew⟩
   | true =>
    obtain ⟨p1,p2,p3⟩:=Lp HBA.out key v hh;have PL:=aa (λ(w':World) (h':TN w' (a 1) (a 2) x.s.T E w0)=>TN.place h' key hh hb fp (by rw [HFZ.out];exact Rh.out) v hq);unfold dO at PL;rw [HAP.out,HAZ.out,HFZ.out] at PL
    have Vd:x.s.T.bB key hh=x.s.T.room key hh/\x.s.T.bN key hh=if x.s.T.room key hh=true then 0 else 2:=by
     unfold ae.bB ae.bN;rw [hq];cases x.s.T.room key hh <;> simp
    rw [Vd.2] at PL;have Q1:=aa (HSS.out.trans p1);have Q2:=aa (HPB.out.trans (p2.trans Vd.1));have Q3:=aa (show pe=jF E (if x.s.T.room key hh=true then 0 else 2) from by rw [HPE.out,p3,Vd.2]);clear p1 p2 p3 hq Vd;generalize x.s.T.room key hh=rm at *
    cases rm with
    | true =>
     simp only [if_true,fG] at PL Q3
     go_wp2_with (first
      | (go_at_call 44;(with_reducible refine (EN.out fp _ TC.out).mono ?_);rintro e w2 ⟨rfl,hb2⟩;have P2:=PC.out.below hb2 PC.out.lt;obtain ⟨f0,f1,f2,f3,f4,f5,f6⟩:=bY P2;have M6:=P2.lt;have X62:=X6C.out.below hb2 X6C.out.lt;obtain ⟨m20,m21,m22⟩:=cells3 X62;have zm2:=X62.lt;have T2:=aa (TC.out.later hb2);have L2:=aa (LC.out.later hb2);have N2:=aa (NC.out.later hb2);have CW:=aa (((ah.of_below HB1.out).trans CC.out).au hb2);have z2:=hb2.size;clear hb2)
      | (go_at_call 46;((with_reducible refine (PL.out _ (T2.out.later ((aM _ _).alloc (aL _) _))).mono ?_);rintro e w3 ⟨rfl,ht3,hc3⟩;have T3:=aa ht3;have C3:=aa hc3;clear ht3 hc3)))
     go_ret2;exact ⟨by rw [Q2.out,Q3.out];rfl,by rw [Q1.out];exact (N2.out.later ((aM _ _).alloc (aL _) _)).Nn HZ.out T3.out C3.out (λe=>by rcases e with e|e;exact NBN.out.1 e.symm;exact NBN.out.2 e.symm),⟨_,(L2.out.later ((aM _ _).alloc (aL _) _)).aA C3.out (λb e f=>(HS.out b e).2.1 (.inr ⟨HZ.out,f⟩))⟩,((CW.out.mono (λ_ _ e => .inl e)).au ((aM _ _).alloc (aL _) _)).trans (C3.out.mono (λ_ _ e => .inr (.inr ⟨HZ.out,e⟩)))⟩
    | false =>
     simp only [Bool.false_eq_true,if_false,jh E 2 (by decide)] at PL Q3;unfold aO at PL Q3
     go_wp2_with (first
      | (go_at_call 44;(with_reducible refine (EN.out fp _ TC.out).mono ?_);rintro e w2 ⟨rfl,hb2⟩;have P2:=PC.out.below hb2 PC.out.lt;obtain ⟨f0,f1,f2,f3,f4,f5,f6⟩:=bY P2;have M6:=P2.lt;have X62:=X6C.out.below hb2 X6C.out.lt;obtain ⟨m20,m21,m22⟩:=cells3 X62;have zm2:=X62.lt;have T2:=aa (TC.out.later hb2);have L2:=aa (LC.out.later hb2);have N2:=aa (NC.out.later hb2);have CW:=aa (((ah.of_below HB1.out).trans CC.out).au hb2);have z2:=hb2.size;clear hb2)
      | (go_at_call 46;((with_reducible refine (PL.out _ (T2.out.later ((aM _ _).alloc (aL _) _))).mono ?_);rintro e w3 ⟨rfl,ht3,hc3⟩;have T3:=aa ht3;have C3:=aa hc3;clear ht3 hc3)))
     go_ret2;exact ⟨by rw [Q2.out,Q3.out];rfl,by rw [Q1.out];exact (N2.out.later ((aM _ _).alloc (aL _) _)).Nn HZ.out T3.out C3.out (λe=>by rcases e with e|e;exact NBN.out.1 e.symm;exact NBN.out.2 e.symm),⟨_,(L2.out.later ((aM _ _).alloc (aL _) _)).aA C3.out (λb e f=>(HS.out b e).2.1 (.inr ⟨HZ.out,f⟩))⟩,((CW.out.mono (λ_ _ e => .inl e)).au ((aM _ _).alloc (aL _) _)).trans (C3.out.mono (λ_ _ e => .inr (.inr ⟨HZ.out,e⟩)))⟩
theorem ND.put (h:ND w Nb a x E w0) (hl:LW w lp mt) (hs:kQ lp a x Nb w0.heap.size) (key v:Int) (hh:Nat) (hb:hh<18446744073709551616) (more:Bool) (q:Option Addr) (hq:di q lp) (x1 y1 z1:Int) :
 Calls Tryz.prog 12 #[.pointer (some ⟨Nb,0,none⟩),.agg #[.pointer q,.int .i64 x1,.int .i64 y1,.int .i64 z1],.agg #[.int .u64 key,.int .u64 v,.int .u64 (hh:Int)],.bool more] w λe w' =>
  e = .returned (.tuple #[.bool (x.s.bB key hh more),jF E (x.s.bN key hh more)])/\ND w' Nb a { x with s:=x.s.put key v hh more} E w0/\(∃n:Nat,LW w' lp (addN mt x1 y1 z1 n))/\ah (λb=>lp=some b\/NX a x b) w w':=by
 by_cases hz:x.bz=true
 . exact h.ain hz hl hs key v hh hb more q hq x1 y1 z1
 . exact h.aip (by simpa using hz) hl hs key v hh hb more q hq x1 y1 z1
end
section
variable {w w' w0:World} {Nb:Nat} {a:Nat->Nat} {x:bH} {E:Nat->Addr} {mt:aG} {M:Nat} {s:DuS} {tk:Bool}
theorem fM.afT (h:fM w a s tk E w0) (hM:af w M 37 mt.cells) (hl:mt.limited=false) (hls:j4 (some M) a s w0.heap.size) (hev:s.sH) :
 Calls Tryz.prog 54 #[.pointer (some ⟨a 0,0,none⟩),.pointer (some ⟨M,0,none⟩)] w λe w' =>
  ∃ (a':Nat->Nat) (jX:aG),e = .returned (.bool (decide (0<s.left)))/\fM w' a' s.bX tk E w0/\af w' M 37 jX.cells/\jX.limited=false/\(a' 0=a 0/\a' 1=a 1)/\(∀b,oU a' s.bX b->oU a s b\/w.heap.size<=b)/\ah (λb=>b=M\/oU a s b) w w':=by
 unfold j4 at hls;unfold DuS.left DuS.bX;rcases h.m with ⟨aT,hA⟩ | ⟨aT,dz,cap5,hB⟩
 . have hb0:¬s.bare=0:=by have:=hA.hb;omega
   rw [decide_eq_false hb0] at hls;rw [if_neg hb0,decide_eq_true (show 0<s.bare+(s.T.n-s.nx) by have:=hA.hb;omega)];refine (hA.step h.ok hM hls hl).mono ?_;rintro e w' ⟨rfl,⟨a',g1,g2,g3⟩,g4,g5⟩
   refine ⟨a',_,rfl,g1,g4,hl,⟨g2 0 (.fH (by decide)),g2 1 (.fH (by decide))⟩,λb e=>?_,g5⟩;obtain ⟨x,hx,rfl⟩:=e;by_cases hx2:Used s.k false x
   . rw [g2 x hx2];exact .inl ⟨x,by rw [decide_eq_false hb0];exact hx2,rfl⟩
   . have hx3:Used s.k (decide (s.bare-1=0)) x:=hx;unfold Used at hx2 hx3;simp only [Bool.false_eq_true,false_and,false_or] at hx2;rcases hx3 with e | ⟨e1,e2⟩|e
     . exact absurd (.inl e) hx2
     . rcases g3 x (by omega) e2 with e3|e3
       . exact .inr e3
       . rw [decide_eq_true_eq] at e1;omega
     . exact absurd (.inr e) hx2
 . have hb0:=hB.hb;have hxn:=h.ok.hx;rw [decide_eq_true hb0] at hls;rw [if_pos hb0];by_cases hn:s.nx<s.T.n
   . rw [if_pos hn,decide_eq_true (show 0<s.bare+(s.T.n-s.nx) by omega)];refine (hB.rU h.ok hM hls hl hn (hev hb0 hn)).mono ?_;rintro e w' ⟨rfl,g1,g2,g3⟩
     exact ⟨a,_,rfl,g1,g2,(eZ _ _ _ _ _).trans hl,⟨rfl,rfl⟩,λb e => .inl ((oN ⟨rfl,rfl⟩ b).1 e),g3⟩
   . rw [if_neg hn,decide_eq_false (show ¬0<s.bare+(s.T.n-s.nx) by omega)];refine (hB.Ji h.ok hM hls (by omega)).mono ?_;rintro e w' ⟨rfl,g1⟩
     exact ⟨a,mt,rfl,h.later g1,hM.below g1 hM.lt,hl,⟨rfl,rfl⟩,λb e => .inl e,ah.of_below g1⟩
def bH.bX (x:bH):bH:={ x with s:=if x.bz=true then x.s.bX else x.s}
theorem ND.step (h:ND w Nb a x E w0) (hM:af w M 37 mt.cells) (hl:mt.limited=false) (hs:kQ (some M) a x Nb w0.heap.size) (hev:x.bz=true->x.s.sH) :
 Calls Tryz.prog 15 #[.pointer (some ⟨Nb,0,none⟩),.pointer (some ⟨M,0,none⟩)] w λe w' =>
  ∃ (a':Nat->Nat) (jX:aG),e = .returned (.bool (x.bz && decide (0<x.s.left)))/\ND w' Nb a' x.bX E w0/\af w' M 37 jX.cells/\jX.limited=false/\(∀b,NX a' x.bX b->NX a x b\/w.heap.size<=b)/\ah (λb=>b=M\/NX a x b) w w':=by
 obtain ⟨c0,c1,c2,c3,c4,z⟩:=h.cells;have HH:=aa h;have HM:=aa hM;by_cases hz:x.bz=true
 . rw [if_pos hz] at c4;have ST:=aa ((h.u hz).afT hM hl (hs.v hz) (hev hz));have HX:=aa (show x.bX = { x with s:=x.s.bX} from by unfold bH.bX;rw [if_pos hz]);have HZ:=aa hz
   have HL:=aa (show ¬ (Nb=M\/oU a x.s Nb) from by
    rintro (e|e)
    . exact (hs M rfl).2.2 e.symm
    . exact h.n.2 Nb (.inl ⟨hz,e⟩) rfl)
   obtain ⟨bb,hbb⟩:=dC (decide (0<x.s.left));have hr:(x.bz && decide (0<x.s.left))=bb:=by rw [hz,hbb];rfl
   rw [hr];rw [<-hbb] at ST;clear h hM hs hev c0 c1 c2 c3 hz hbb hr;go_enter Tryz.func15,Tryz.ntmps15
   go_wp2_with (go_at_call 54;(with_reducible refine ST.out.mono ?_);rintro e w1 ⟨a',jX,rfl,hu1,hm1,hl1,ha1,hx1,hc1⟩;have U1:=aa hu1;have M1:=aa hm1;have A1:=aa ha1;have X1:=aa hx1;have C1:=aa hc1;have LL:=aa hl1;clear hu1 hm1 ha1 hx1 hc1 hl1)
   go_ret;have hw:=HH.out.j3.size;have hn:=NX.lt HH.out
   have hnd:ND w1 Nb a' { x with s:=x.s.bX} E w0:=HH.out.mH HZ.out U1.out C1.out HL.out A1.out (λb e=>by
    rcases X1.out b e with f|f
    . exact HH.out.n.2 b (.inl ⟨HZ.out,f⟩)
    . omega)
   refine ⟨a',jX,rfl,by rw [HX.out];exact hnd,M1.out,LL.out,λb hb=>?_,C1.out.mono (λb _ e=>by rcases e with e|e;exact .inl e;exact .inr (.inl ⟨HZ.out,e⟩))⟩;rw [HX.out] at hb;rcases hb with ⟨-,f⟩ | ⟨f,-⟩
   . rcases X1.out b f with g|g
     . exact .inl (.inl ⟨HZ.out,g⟩)
     . exact .inr g
   . exact absurd HZ.out (by rw [show x.bz=false from f];decide)
 . have hz2:x.bz=false:=by simpa using hz
   rw [if_neg hz] at c4;have hr:(x.bz && decide (0<x.s.left))=false:=by rw [hz2];rfl
   have hx:x.bX=x:=by unfold bH.bX;rw [if_neg hz]
   rw [hr,hx];have HL:=aa hl;clear h hM hs hev c0 c1 c2 c3 hz hr hx hl;go_enter Tryz.func15,Tryz.ntmps15
   go_wp2;go_ret;exact ⟨a,mt,rfl,HH.out,HM.out,HL.out,λb hb => .inl hb,ah.refl _ _⟩
def bH.wants (x:bH) (gl:Int):Int:=if x.bz=true then 0 else dY x.s.T.lv x.s.T.tb (x.s.T.n:Int) (x.d:Int) gl
def bH.dbl (x:bH) (gl:Int):Bool:=if x.bz=true then false else fV x.s.T.lv x.s.T.tb (x.s.T.n:Int) (x.d:Int) gl
theorem ND.rQ (h:ND w Nb a x E w0) (gl:Int):Calls Tryz.prog 13 #[.pointer (some ⟨Nb,0,none⟩),.int .i64 gl] w λe w'=>e = .returned (.tuple #[.int .i64 (x.wants gl),.bool (x.dbl gl)])/\Below w.heap.size w w':=by
 obtain ⟨c0,c1,c2,c3,c4,z⟩:=h.cells;unfold bH.wants bH.dbl;by_cases hz:x.bz=true
 . rw [if_pos hz,if_pos hz];rw [if_pos hz] at c4;clear h c0 c1 c2 c3 hz;go_enter Tryz.func13,Tryz.ntmps13
   go_wp2;go_ret2;exact ⟨rfl,aM _ _⟩
 . rw [if_neg hz,if_neg hz];rw [if_neg hz] at c4;obtain ⟨ht,-⟩:=h.i (by simpa using hz);have LE:=aa (λ(W:World) (hb:Below w.heap.size w W)=>(ht.later hb).len);have TO:=aa (λ(W:World) (hb:Below w.heap.size w W)=>(ht.later hb).acx);have GR:=aa (λ(W:World) (hb:Below w.heap.size w W)=>(ht.later hb).groups);have WH:=aa (λ(W:World)=>Rm x.s.T.lv x.s.T.tb (x.s.T.n:Int) (x.d:Int) gl W);have DB:=aa (λ(W:World)=>OA x.s.T.lv x.s.T.tb (x.s.T.n:Int) (x.d:Int) gl W);generalize x.s.T.lv=lv at *
   generalize x.s.T.tb=tb at *
   generalize x.s.T.n=n at *
   generalize dY lv tb (n:Int) (x.d:Int) gl=r1 at *
   generalize fV lv tb (n:Int) (x.d:Int) gl=r2 at *
   clear h ht c0 c3 hz;go_enter Tryz.func13,Tryz.ntmps13
   go_wp2;refine ag (λ_=>False) #[⟨0,0,2^14,1,0⟩,⟨1,1,2^15,2^14,0⟩,⟨2,3,2^16,2^15,0⟩,⟨4,7,2^17,2^16,1⟩,⟨8,15,2^18,2^17,2⟩,⟨0,0,2^19,1,0⟩,⟨32,32,2^20,2^19,0⟩,⟨64,96,2^21,2^20,0⟩,⟨128,224,2^22,2^21,1⟩,⟨272,511,2^23,2^22,2⟩,⟨0,0,2^24,1,0⟩,⟨1024,1024,2^25,2^24,0⟩,⟨2048,3072,2^26,2^25,0⟩,⟨4096,7168,2^27,2^26,1⟩,⟨8704,16383,2^28,2^27,3⟩,⟨16415,32767,64,2^18,0⟩,⟨33791,65535,128,2^23,0⟩,⟨131071,131071,256,2^28,0⟩] 8456 [(0,0),(1,0),(2,0),(3,1),(5,0),(6,0),(7,0),(8,1),(10,0),(11,0),(12,0),(13,1),(4,2),(9,2),(14,3),(15,0),(16,0),(17,0)] (by kernel_rfl) (by kernel_rfl) (by kernel_rfl) (by kernel_rfl) (by kernel_rfl) (by kernel_rfl) (λc a d v w h=>by cases d <;> exact h) ?_;refine aj ?_;refine aj ?_;refine aj ?_;refine bW Tryz.underlying85 ?_
   try refine aC ?_;refine aj ?_;refine aj ?_;refine aj ?_
   refine bW Tryz.underlying85 ?_
   try refine aC ?_;refine aj ?_;refine aj ?_;refine aj ?_
   refine bW Tryz.underlying85 ?_
   try refine aC ?_
   refine iK λK hK=>?_;go_wp2_with ((go_at_call 47;(with_reducible refine (LE.out _ (aM _ _).drew).mono ?_);rintro e w1 ⟨rfl,rfl⟩));refine iX hK (h:=?_);clear hK K
   try refine aC ?_
   refine iK λK hK=>?_;go_wp2_with ((go_at_call 48;(with_reducible refine (TO.out _ (aM _ _).drew).mono ?_);rintro e w1 ⟨rfl,rfl⟩));refine iX hK (h:=?_);clear hK K
   try refine aC ?_
   refine fA λK hK=>?_;go_wp2_with ((go_at_call 49;(with_reducible refine (GR.out _ (aM _ _).drew).mono ?_);rintro e w1 ⟨rfl,rfl⟩));refine hK.out _ _ ?_;clear hK K
   try refine aC ?_;refine aj ?_;refine aj ?_;refine aj ?_
   refine aD ?_;go_wp2;refine ag (λ_=>False) #[⟨0,0,2^29,64,0⟩,⟨0,0,2^30,128,0⟩,⟨0,0,2^31,256,0⟩,⟨0,0,2^32,1,0⟩,⟨8,8,2^33,2^32,0⟩,⟨16,24,2^34,2^33,0⟩,⟨32,56,2^35,2^34,1⟩,⟨0,0,2^36,2,0⟩,⟨199,255,2^37,106837311488,2⟩,⟨0,0,2^38,64,0⟩,⟨0,0,2^39,128,0⟩,⟨0,0,2^40,256,0⟩,⟨0,0,2^41,1,0⟩,⟨4096,4096,2^42,2^41,0⟩,⟨8192,(2^12+2^13),2^43,2^42,0⟩,⟨2^14,(2^12+2^13+2^14),2^44,2^43,1⟩,⟨0,0,2^45,2,0⟩,⟨102144,131071,2^46,54700703481856,3⟩,⟨131583,262143,16,2^37,0⟩,⟨524287,524287,32,2^46,0⟩] (2^6+2^15) [(0,0),(1,0),(2,0),(3,0),(4,0),(5,0),(6,1),(7,0),(9,0),(10,0),(11,0),(12,0),(13,0),(14,0),(15,1),(16,0),(8,2),(17,3),(18,0),(19,0)] (by kernel_rfl) (by kernel_rfl) (by kernel_rfl) (by kernel_rfl) (by kernel_rfl) (by kernel_rfl) (λc a d v w h=>by cases d <;> exact h) ?_;refine aj ?_;refine aj ?_;refine aj ?_;refine aj ?_;refine aj ?_;refine aj ?_;refine bW Tryz.underlying3 ?_
   try refine aC ?_;refine aj ?_;refine aj ?_;refine aj ?_;refine aj ?_;refine aj ?_;refine aj ?_;refine aj ?_
   refine bW Tryz.underlying3 ?_
   try refine aC ?_;refine aj ?_
   refine iK λK hK=>?_;go_wp2_with ((go_at_call 50;(with_reducible refine (WH.out _).mono ?_);rintro e w1 ⟨rfl,rfl⟩));refine iX hK (h:=?_);clear hK K
   try refine aC ?_
   refine fA λK hK=>?_;go_wp2_with ((go_at_call 51;(with_reducible refine (DB.out _).mono ?_);rintro e w1 ⟨rfl,rfl⟩));refine hK.out _ _ ?_;clear hK K
   try refine aC ?_;refine aj ?_;refine aj ?_
   refine aD ?_;go_wp2;go_ret2;exact ⟨rfl,(aM _ _).drew.drew⟩
end
end Go.Proofs.YtolhmibejhldkaaGreatDoor
namespace Go.Proofs.YtolhmibejhldkaaGreatDoor
open Go.RowKit
def mU (k g:Int):Int:=if k=2 then 2*g else g
def oW (k:Int):Int:=if k=3 then 2 else 1
def fK (k g:Int):Nat:=if k=1\/k=2\/k=3 then (if aN g=true/\aN (mU k g)=true then 0 else 1) else 14
theorem CP {g:Int} (h:aN g=true) (h2:g<64):aN (2*g)=true:=by
 rw [dG] at *;omega
theorem qQ {k g:Int} (h:k=1\/k=2\/k=3) (hg:aN g=true) (h2:k=2->g<64):fK k g=0:=by
 unfold fK;rw [if_pos h,if_pos];refine ⟨hg,?_⟩;unfold mU;split
 . exact CP hg (h2 ‹_›)
 . exact hg
theorem Cs {k g:Int} (h:fK k g=0):(k=1\/k=2\/k=3)/\aN g=true/\aN (mU k g)=true:=by
 unfold fK at h;by_cases h1:k=1\/k=2\/k=3
 . rw [if_pos h1] at h;by_cases h2:aN g=true/\aN (mU k g)=true
   . exact ⟨h1,h2⟩
   . rw [if_neg h2] at h;cases h
 . rw [if_neg h1] at h;cases h
theorem ach (k g:Int):fK k g=0\/fK k g=1\/fK k g=14:=by
 unfold fK;split
 . split
   . exact .inl rfl
   . exact .inr (.inl rfl)
 . exact .inr (.inr rfl)
open Go.RowKit Go.Proofs
def agN (E:Nat->Addr) (n:Nat):Value:=if n=0 then .nilIface else .iface 259 (.pointer (some (E n)))
def Bo (E:Nat->Addr) (k g:Int):Value := .tuple #[.int .i64 (if fK k g=0 then mU k g else 0),.int .i64 (if fK k g=0 then oW k else 0),agN E (fK k g)]
theorem mf {E:Nat->Addr} {k g:Int} (h:fK k g=0):Bo E k g = .tuple #[.int .i64 (mU k g),.int .i64 (oW k),.nilIface]:=by
 unfold Bo;rw [h];rfl
theorem jv {E:Nat->Addr} {k g:Int} {n:Nat} (h:fK k g=n) (hn:n≠0):Bo E k g = .tuple #[.int .i64 0,.int .i64 0,.iface 259 (.pointer (some (E n)))]:=by
 unfold Bo agN;rw [h,if_neg hn,if_neg hn,if_neg hn]
theorem EP (k g:Int) (E:Nat->Addr) (w:World) (h1:w.cell? ⟨0,0,none⟩=some (.iface 259 (.pointer (some (E 1))))) (h14:w.cell? ⟨7,0,none⟩=some (.iface 259 (.pointer (some (E 14))))) :
 Calls Tryz.prog 52 #[.int .i64 k,.int .i64 g] w λe w'=>e = .returned (Bo E k g)/\∃m,w'=w.drewN m:=by
 by_cases k1:k=1
 . subst k1;by_cases hr:aN g=true
   . have HV:=aa ((mf (E:=E) (qQ (k:=1) (by omega) hr (by omega))).trans (show _=Value.tuple #[.int .i64 (g),.int .i64 1,.nilIface] from rfl));have hq:=hr;go_enter Tryz.func52,Tryz.ntmps52
     go_wp2_with (go_at_call 104;refine (fu _ _).mono ?_;rintro e w' ⟨rfl,rfl⟩;simp only [hr,hq])
     go_ret3
     exact ⟨by rw [HV.out];rfl,0,rfl⟩
   . have HV:=aa (jv (E:=E) (k:=1) (g:=g) (n:=1) (by unfold fK;rw [if_pos (by omega),if_neg (λh=>hr h.1)]) (by decide));replace hr:aN g=false:=by simpa using hr
     have hq:=hr;go_enter Tryz.func52,Tryz.ntmps52
     go_wp2_with (go_at_call 104;refine (fu _ _).mono ?_;rintro e w' ⟨rfl,rfl⟩;simp only [hr,hq])
     go_quiet (fail)
     go_wp2
     go_ret3
     exact ⟨by rw [HV.out];rfl,nq,rfl⟩
 . by_cases k2:k=2
   . subst k2;by_cases hr:aN g=true
     . have hgb:=j5 hr;by_cases h64:g<64
       . have HV:=aa ((mf (E:=E) (qQ (k:=2) (by omega) hr (λ_=>h64))).trans (show _=Value.tuple #[.int .i64 (2*g),.int .i64 1,.nilIface] from rfl));have hq:=CP hr h64;go_enter Tryz.func52,Tryz.ntmps52
         go_wp2_with (go_at_call 104;refine (fu _ _).mono ?_;rintro e w' ⟨rfl,rfl⟩;simp only [hr,hq])
         go_ret3
         exact ⟨by rw [HV.out];rfl,0,rfl⟩
       . have hq:aN (2*g)=false:=by rw [Bool.eq_false_iff,ne_eq,dG];omega
         have HV:=aa (jv (E:=E) (k:=2) (g:=g) (n:=1) (by unfold fK mU;rw [if_pos (by omega),if_neg (λh=>by rw [if_pos rfl,hq] at h;exact absurd h.2 (by decide))]) (by decide));go_enter Tryz.func52,Tryz.ntmps52
         go_wp2_with (go_at_call 104;refine (fu _ _).mono ?_;rintro e w' ⟨rfl,rfl⟩;simp only [hr,hq])
         go_quiet (fail)
         go_wp2
         go_ret3
         exact ⟨by rw [HV.out];rfl,nq,rfl⟩
     . have HV:=aa (jv (E:=E) (k:=2) (g:=g) (n:=1) (by unfold fK;rw [if_pos (by omega),if_neg (λh=>hr h.1)]) (by decide));replace hr:aN g=false:=by simpa using hr
       have hq:=hr;have hwr:=IntWalk.i64_left (2*g);go_enter Tryz.func52,Tryz.ntmps52
       go_wp2_with (go_at_call 104;refine (fu _ _).mono ?_;rintro e w' ⟨rfl,rfl⟩;simp only [hr,hq])
       go_quiet (fail)
       go_wp2
       go_ret3
       exact ⟨by rw [HV.out];rfl,nq,rfl⟩
   . by_cases k3:k=3
     . subst k3;by_cases hr:aN g=true
       . have HV:=aa ((mf (E:=E) (qQ (k:=3) (by omega) hr (by omega))).trans (show _=Value.tuple #[.int .i64 (g),.int .i64 2,.nilIface] from rfl));have hq:=hr;go_enter Tryz.func52,Tryz.ntmps52
         go_wp2_with (go_at_call 104;refine (fu _ _).mono ?_;rintro e w' ⟨rfl,rfl⟩;simp only [hr,hq])
         go_ret3
         exact ⟨by rw [HV.out];rfl,0,rfl⟩
       . have HV:=aa (jv (E:=E) (k:=3) (g:=g) (n:=1) (by unfold fK;rw [if_pos (by omega),if_neg (λh=>hr h.1)]) (by decide));replace hr:aN g=false:=by simpa using hr
         have hq:=hr;go_enter Tryz.func52,Tryz.ntmps52
         go_wp2_with (go_at_call 104;refine (fu _ _).mono ?_;rintro e w' ⟨rfl,rfl⟩;simp only [hr,hq])
         go_quiet (fail)
         go_wp2
         go_ret3
         exact ⟨by rw [HV.out];rfl,nq,rfl⟩
     . have HV:=aa (jv (E:=E) (k:=k) (g:=g) (n:=14) (by unfold fK;rw [if_neg (by omega)]) (by decide));have hr:(1:Nat)=1:=rfl;have hq:=hr;go_enter Tryz.func52,Tryz.ntmps52
       go_wp2
       go_quiet (fail)
       go_wp2
       go_ret3
       exact ⟨by rw [HV.out];rfl,nq,rfl⟩
attribute [local go_sem] neq_nilG eql_nilG
section
variable {w w' w0:World} {Nb:Nat} {a:Nat->Nat} {x:bH} {E:Nat->Addr}
def Mi (kind:Int) (n:Nat):Nat:=if kind=2 then 2*n else n
def bH.Gy (x:bH) (kind:Int):bH:={ x with Ey:=kind,bz:=true,s:=DuS.lg (if kind=3 then 2 else 1) (if kind=3 then x.d else 0) (Mi kind x.s.T.n) x.s.T}
theorem Fx (kind:Int) (n:Nat):mU kind (n:Int)=((Mi kind n:Nat):Int):=by
 unfold mU Mi;split <;> simp
theorem ND.began {W:World} {a':Nat->Nat} {aT k d gn:Nat} {kind:Int} (h:ND w Nb a x E w0) (hz:x.bz=false) (hb:Below w.heap.size w W) (hA:ni W a' (DuS.lg k d gn x.s.T) aT false E w0) (hk:k=1\/(k=2/\d<=15)) (hr:aN (gn:Int)=true) (a1:a' 1=a 1) (a2:a' 2=a 2) (ax:∀y,Used k false y->y≠1->y≠2->w.heap.size<=a' y) {Wf:World} (hWf:Wf=(W.setCell ⟨Nb,3,none⟩ (.int .i64 kind)).setCell ⟨Nb,4,none⟩ (.pointer (some ⟨a' 0,0,none⟩))) :
 ND Wf Nb a' { x with Ey:=kind,bz:=true,s:=DuS.lg k d gn x.s.T} E w0/\(∀b,NX a' { x with Ey:=kind,bz:=true,s:=DuS.lg k d gn x.s.T} b->NX a x b\/w.heap.size<=b)/\ah (λb=>b=Nb) w Wf:=by
 have hc:ah (λb=>b=Nb) W Wf:=by rw [hWf];exact ((ah.refl _ _).set1 _ _).set1 _ _
 have zN:=h.b.lt;have hT:=(h.i hz).1.good;have hnx:decide ((DuS.lg k d gn x.s.T).bare=0)=false:=decide_eq_false (by have:=hA.hb;omega)
 have hX:∀b,NX a' { x with Ey:=kind,bz:=true,s:=DuS.lg k d gn x.s.T} b->NX a x b\/w.heap.size<=b:=λb hb2=>by
  rcases hb2 with ⟨-,y,hy,rfl⟩ | ⟨e,-⟩
  . rw [hnx] at hy;by_cases y1:y=1
    . rw [y1,a1];exact .inl (.inr ⟨hz,.inl rfl⟩)
    by_cases y2:y=2
    . rw [y2,a2];exact .inl (.inr ⟨hz,.inr rfl⟩)
    exact .inr (ax y hy y1 y2)
  . cases e
 have hN:∀b,NX a' { x with Ey:=kind,bz:=true,s:=DuS.lg k d gn x.s.T} b->b≠Nb:=λb hb2=>by
  rcases hX b hb2 with e|e
  . exact h.n.2 b e
  . omega
 refine ⟨⟨?_,λe=>(by cases e),λ_=>⟨dW.lg hk hr hT,.inl ⟨aT,hA.aA hc (λb e=>by rw [e];exact h.n.1) (λy hy=>hN _ (.inl ⟨rfl,y,by rw [hnx];exact hy,rfl⟩))⟩⟩,⟨h.n.1,hN⟩,h.pd⟩,hX,(ah.of_below hb).trans hc⟩;rw [hWf];have:=((h.b.below hb zN).set 3 (.int .i64 kind)).set 4 (.pointer (some ⟨a' 0,0,none⟩));simp only [a1] at this ⊢;exact this
theorem ND.qy (h:ND w Nb a x E w0) (hz:x.bz=false) (kind:Int) (hbad:fK kind (x.s.T.n:Int)=0) (hd:kind=3->x.d<5) :
 Calls Tryz.prog 14 #[.pointer (some ⟨Nb,0,none⟩),.int .i64 kind] w λe w' => ∃a',e = .returned .nilIface/\ND w' Nb a' (x.Gy kind) E w0/\(∀b,NX a' (x.Gy kind) b->NX a x b\/w.heap.size<=b)/\ah (λb=>b=Nb) w w':=by
 obtain ⟨c0,c1,c2,c3,c4,z⟩:=h.cells;rw [if_neg (by rw [hz];decide)] at c4;obtain ⟨ht,-⟩:=h.i hz;obtain ⟨b1,b2,b3⟩:=Cs hbad;have HH:=aa h;have HZ:=aa hz;have GR:=aa (λ(W:World) (hb:Below w.heap.size w W)=>(ht.later hb).groups);have CG:=aa (λ(W:World) (hb:Below w.heap.size w W)=>EP kind (x.s.T.n:Int) E W ((ht.later hb).low.e 1 (by decide)) ((ht.later hb).low.e 14 (by decide)));have GV:=mf (E:=E) hbad;have h5:¬ (5:Int)<=(x.d:Int)\/kind≠3:=by by_cases e:kind=3;exact .inl (by have:=hd e;omega);exact .inr e
 rw [Fx] at GV b3;unfold bH.Gy;rw [GV] at CG;have d5:=h.pd.1;have BG:=aa (λ(W:World) (a':Nat->Nat) (aT k d gn:Nat) (hb:Below w.heap.size w W) (hA:ni W a' (DuS.lg k d gn x.s.T) aT false E w0) hk hr a1 a2 ax (Wf:World) hWf=>h.began (kind:=kind) hz hb hA hk hr a1 a2 ax (Wf:=Wf) hWf);have hBB:=aa h.b;generalize Mi kind x.s.T.n=gn at *
 by_cases k3:kind=3
 . have DN:=aa (λ(W:World) (hb:Below w.heap.size w W)=>Fy (k:=2) (d:=x.d) (gn:=gn) (x.d:Int) (.inr ⟨rfl,rfl,by omega⟩) b3 (ht.later hb));have HB3:=aa b3;simp only [if_pos k3];subst k3;have q5:¬ (x.d:Int)>=5:=by rcases h5 with e|e;exact e;exact absurd rfl e
   have hm:oW 3=2:=rfl;rw [hm] at CG;generalize x.s.T.n=n at *
   generalize x.d=d at *
   clear h ht hz hbad hd h5 c0 b1 b2 b3 GV hm;go_enter Tryz.func14,Tryz.ntmps14
   go_wp2_with (first|(go_at_call 49;(with_reducible refine (GR.out _ (aM _ _)).mono ?_);rintro e w1 ⟨rfl,rfl⟩)|(go_at_call 52;(with_reducible refine (CG.out _ (aM _ _)).mono ?_);rintro e w1 ⟨rfl,dm,rfl⟩)|(go_at_call 53;(with_reducible refine (DN.out _ (below_drewN (aM _ _) _)).mono ?_);rintro e w1 ⟨a',aT,rfl,hA,a1,a2,ax,hb1⟩;have HB1:=aa ((below_drewN (aM w.heap.size w) dm).trans hb1);have B1:=aa (hBB.out.below HB1.out z);have g3:=B1.out.frozen 3;have g4:=B1.out.frozen 4;have z1:=B1.out.lt;have k3c:w1.cell? ⟨Nb,3,none⟩=_:=B1.out.cell 3;have k4c:w1.cell? ⟨Nb,4,none⟩=_:=B1.out.cell 4;have HA:=aa hA;have A1:=aa a1;have A2:=aa a2;have AX:=aa ax;clear hA a1 a2 ax hb1))
   go_wp2;refine aJ (λWf hWf=>?_);go_ret;exact ⟨a',rfl,BG.out _ _ _ _ _ _ HB1.out HA.out (.inr ⟨rfl,by omega⟩) HB3.out A1.out A2.out AX.out Wf hWf⟩
 . have DN:=aa (λ(W:World) (hb:Below w.heap.size w W)=>Fy (k:=1) (d:=0) (gn:=gn) (-1) (.inl ⟨rfl,by decide,rfl⟩) b3 (ht.later hb));have HB3:=aa b3;simp only [if_neg k3];have hm:oW kind=1:=by unfold oW;rw [if_neg k3]
   rw [hm] at CG;generalize x.s.T.n=n at *
   clear h ht hz hbad hd h5 c0 b1 b2 b3 GV hm;go_enter Tryz.func14,Tryz.ntmps14
   go_wp2_with (first|(go_at_call 49;(with_reducible refine (GR.out _ (aM _ _)).mono ?_);rintro e w1 ⟨rfl,rfl⟩)|(go_at_call 52;(with_reducible refine (CG.out _ (aM _ _)).mono ?_);rintro e w1 ⟨rfl,dm,rfl⟩)|(go_at_call 53;(with_reducible refine (DN.out _ (below_drewN (aM _ _) _)).mono ?_);rintro e w1 ⟨a',aT,rfl,hA,a1,a2,ax,hb1⟩;have HB1:=aa ((below_drewN (aM w.heap.size w) dm).trans hb1);have B1:=aa (hBB.out.below HB1.out z);have g3:=B1.out.frozen 3;have g4:=B1.out.frozen 4;have z1:=B1.out.lt;have k3c:w1.cell? ⟨Nb,3,none⟩=_:=B1.out.cell 3;have k4c:w1.cell? ⟨Nb,4,none⟩=_:=B1.out.cell 4;have HA:=aa hA;have A1:=aa a1;have A2:=aa a2;have AX:=aa ax;clear hA a1 a2 ax hb1))
   go_wp2;refine aJ (λWf hWf=>?_);go_ret;exact ⟨a',rfl,BG.out _ _ _ _ _ _ HB1.out HA.out (.inl rfl) HB3.out A1.out A2.out AX.out Wf hWf⟩
end
section
variable {w w' w0:World} {Nb:Nat} {a:Nat->Nat} {x:bH} {E:Nat->Addr}
def bH.idle (p d:Nat) (T:ae):bH:=⟨p,d,0,false,DuS.lg 1 0 64 T⟩
def Tj (a:Nat->Nat) (i y:Nat):Nat:=if y=1 then a (8+3*i) else if y=2 then a (9+3*i) else 0
theorem aen {i p d:Nat} {T:ae} {b:Nat} (h:NX (Tj a i) (bH.idle p d T) b):b=a (8+3*i)\/b=a (9+3*i):=by
 rcases h with ⟨e,-⟩ | ⟨-,e⟩
 . cases e
 . exact e
theorem qb {i p d:Nat} {T:ae} (hz:x.bz=true) (hi:i<x.s.k):∀b,NX (Tj a i) (bH.idle p d T) b->NX a x b:=λb h=>by
 rcases aen h with e|e
 . exact .inl ⟨hz,_,.of hi (by omega) (by omega),e⟩
 . exact .inl ⟨hz,_,.of hi (by omega) (by omega),e⟩
theorem ND.ended {W Wf:World} {aT dz cap5 i p d N2:Nat} (h:ND w Nb a x E w0) (hz:x.bz=true) (hi:i<x.s.k) (hB:jm W a x.s aT dz cap5 true E w0) {Y:Nat->Prop} (hc:ah Y W Wf) (hY:∀b,Y b->w0.heap.size<=b/\¬NX a x b) (hN:w0.heap.size<=N2/\¬NX a x N2) (LB:d<=5/\p<2 ^ d)
 (hb:af Wf N2 90 #[.int .i64 (p:Int),.int .i64 (d:Int),.pointer (some ⟨a (8+3*i),0,none⟩),.int .i64 0,.pointer none]):ND Wf N2 (Tj a i) (bH.idle p d (x.s.U i)) E w0:=by
 refine ⟨hb,λ_=>⟨?_,(show 0<1*64 by decide)⟩,λe=>(by cases e),⟨hN.1,λb hb2 e=>hN.2 (e▸qb hz hi b hb2)⟩,LB⟩;exact (hB.u i hi).aA hc (λb e=>(hY b e).1) (λe=>(hY _ e).2 (.inl ⟨hz,_,.of hi (by omega) (by omega),rfl⟩)) (λe=>(hY _ e).2 (.inl ⟨hz,_,.of hi (by omega) (by omega),rfl⟩)) (λb f=>by cases f)
theorem ND.acG (h:ND w Nb a x E w0) (hz:x.bz=true) (hn:x.s.left=0):∃aT dz cap5,jm w a x.s aT dz cap5 false E w0:=by
 rcases (h.u hz).m with ⟨b,hA⟩|hB
 . have:=hA.hb;unfold DuS.left at hn;omega
 . exact hB
theorem ND.p8 (h:ND w Nb a x E w0) (hz:x.bz=true) (hn:x.s.left=0) (hk:x.s.k=1) :
 Calls Tryz.prog 17 #[.pointer (some ⟨Nb,0,none⟩)] w λe w'=>e = .returned (.tuple #[.pointer none,.nilIface])/\ND w' Nb (Tj a 0) (bH.idle x.p x.d (x.s.U 0)) E w0/\ah (λb=>b=Nb\/b=a 0) w w':=by
 obtain ⟨aT,dz,cap5,hB⟩:=h.acG hz hn;have hok:=(h.u hz).ok;have HH:=aa h;have HZ:=aa hz;obtain ⟨c0,c1,c2,c3,c4,z⟩:=h.cells;rw [if_pos hz] at c4;have DF:=aa h.Ml;rw [hz,hn] at DF;have TK:=aa (λ(W:World) (hb:Below w.heap.size w W)=>(hB.later hb).take hok hn);have LB:=h.pd
 have abO:x.p<32:=by
  have:2 ^ x.d<=2 ^ 5:=Nat.pow_le_pow_right (by decide) LB.1;omega
 have HP:=aa LB;have N0:=aa (show ¬NX a x Nb from λe=>h.n.2 Nb e rfl);have NL:=aa (NX.lt h);have na0:¬Nb=a 0:=λe=>N0.out (e▸ .inl ⟨hz,0,.fH (by decide),rfl⟩);have hk1:1<=x.s.k:=by omega
 have HEN:=aa (λ(W Wf:World) (i p d N2:Nat) hi hB Y (hc:ah Y W Wf) hY hN LB hb=>h.ended (W:=W) (Wf:=Wf) (aT:=aT) (dz:=dz) (cap5:=cap5) (i:=i) (p:=p) (d:=d) (N2:=N2) hz hi hB hc hY hN LB hb);have hk0:0<x.s.k:=by omega
 rw [hk] at TK;clear h hz hn hB hok c0 c1 c2 c3 hk1 hk;go_enter Tryz.func17,Tryz.ntmps17
 go_wp2_with (first|(go_at_call 16;(with_reducible refine DF.out.mono ?_);rintro e w1 ⟨rfl,hb1⟩;have B1:=aa hb1;have k4:=(hb1.cell (p:=⟨Nb,4,none⟩) z).trans c4;have zN1:=bM z hb1.size;clear hb1)|(go_at_call 56;(with_reducible refine (TK.out _ B1.out).mono ?_);rintro e w2 ⟨v,rfl,hrow,hB2,hc2⟩;obtain ⟨gr,ajG,curr,rfl,hgr,hgb,hgc⟩:=jo hrow (by omega);have DB:=aa hB2;have C2:=aa (show ah (λb=>b=Nb\/b=a 0) w w2 from (ah.of_below B1.out).trans (hc2.mono λb _ e => .inr e));have Dm:=aa ((HH.out.b.below B1.out z).aA hc2 na0);have zN2:=Dm.out.lt;have q0:w2.cell? ⟨Nb,0,none⟩=_:=Dm.out.cell 0;have q1:w2.cell? ⟨Nb,1,none⟩=_:=Dm.out.cell 1;have q2:w2.cell? ⟨Nb,2,none⟩=_:=Dm.out.cell 2;have q3:w2.cell? ⟨Nb,3,none⟩=_:=Dm.out.cell 3;have q4:w2.cell? ⟨Nb,4,none⟩=_:=Dm.out.cell 4;have f0:=Dm.out.frozen 0;have f1:=Dm.out.frozen 1;have f2:=Dm.out.frozen 2;have f3:=Dm.out.frozen 3;have f4:=Dm.out.frozen 4;have zg:=hgb.lt;have nNg:¬Nb=gr:=by have:=B1.out.size;omega))
 have g0:=hgc 0 (by decide);clear hgc;go_wp2;refine aJ (λWf hWf=>?_);go_ret2;have fI:ah (λb=>b=Nb) w2 Wf:=by rw [hWf];exact (((ah.refl _ _).set1 _ _).set1 _ _).set1 _ _
 refine ⟨rfl,HEN.out w2 Wf 0 x.p x.d Nb hk0 DB.out (λb=>b=Nb) fI (λb e=>by rw [e];exact ⟨HH.out.n.1,N0.out⟩) ⟨HH.out.n.1,N0.out⟩ HP.out ?_,C2.out.trans (fI.mono λb _ e => .inl e)⟩;rw [hWf];exact ((Dm.out.set 2 _).set 3 _).set 4 _
theorem ND.Fw (h:ND w Nb a x E w0) (hz:x.bz=true) (hn:x.s.left=0) (hk:x.s.k=2) (hd:x.d<5) :
 Calls Tryz.prog 17 #[.pointer (some ⟨Nb,0,none⟩)] w λe w' => ∃N2,e = .returned (.tuple #[.pointer (some ⟨N2,0,none⟩),.nilIface])/\w.heap.size<=N2/\
  ND w' Nb (Tj a 0) (bH.idle (2*x.p) (x.d+1) (x.s.U 0)) E w0/\ND w' N2 (Tj a 1) (bH.idle (2*x.p+1) (x.d+1) (x.s.U 1)) E w0/\ah (λb=>b=Nb\/b=a 0) w w':=by
 obtain ⟨aT,dz,cap5,hB⟩:=h.acG hz hn;have hok:=(h.u hz).ok;have HH:=aa h;have HZ:=aa hz;obtain ⟨c0,c1,c2,c3,c4,z⟩:=h.cells;rw [if_pos hz] at c4;have DF:=aa h.Ml;rw [hz,hn] at DF;have TK:=aa (λ(W:World) (hb:Below w.heap.size w W)=>(hB.later hb).take hok hn);have LB:=h.pd
 have abO:x.p<32:=by
  have:2 ^ x.d<=2 ^ 5:=Nat.pow_le_pow_right (by decide) LB.1;omega
 have HP:=aa LB;have N0:=aa (show ¬NX a x Nb from λe=>h.n.2 Nb e rfl);have NL:=aa (NX.lt h);have na0:¬Nb=a 0:=λe=>N0.out (e▸ .inl ⟨hz,0,.fH (by decide),rfl⟩);have hk1:1<=x.s.k:=by omega
 have HEN:=aa (λ(W Wf:World) (i p d N2:Nat) hi hB Y (hc:ah Y W Wf) hY hN LB hb=>h.ended (W:=W) (Wf:=Wf) (aT:=aT) (dz:=dz) (cap5:=cap5) (i:=i) (p:=p) (d:=d) (N2:=N2) hz hi hB hc hY hN LB hb);have hk0:0<x.s.k:=by omega
 have ai0:1<x.s.k:=by omega
 have hp2:x.p<2 ^ x.d:=LB.2;have TD:=aa (show (x.d+1<=5/\2*x.p<2 ^ (x.d+1))/\(x.d+1<=5/\2*x.p+1<2 ^ (x.d+1)) from by rw [Nat.pow_succ];omega);rw [hk] at TK;clear h hz hn hB hok c0 c1 c2 c3 hk1 hk hp2 LB;go_enter Tryz.func17,Tryz.ntmps17
 go_wp2_with (first|(go_at_call 16;(with_reducible refine DF.out.mono ?_);rintro e w1 ⟨rfl,hb1⟩;have B1:=aa hb1;have k4:=(hb1.cell (p:=⟨Nb,4,none⟩) z).trans c4;have zN1:=bM z hb1.size;clear hb1)|(go_at_call 56;(with_reducible refine (TK.out _ B1.out).mono ?_);rintro e w2 ⟨v,rfl,hrow,hB2,hc2⟩;obtain ⟨gr,ajG,curr,rfl,hgr,hgb,hgc⟩:=jo hrow (by omega);have DB:=aa hB2;have C2:=aa (show ah (λb=>b=Nb\/b=a 0) w w2 from (ah.of_below B1.out).trans (hc2.mono λb _ e => .inr e));have Dm:=aa ((HH.out.b.below B1.out z).aA hc2 na0);have zN2:=Dm.out.lt;have q0:w2.cell? ⟨Nb,0,none⟩=_:=Dm.out.cell 0;have q1:w2.cell? ⟨Nb,1,none⟩=_:=Dm.out.cell 1;have q2:w2.cell? ⟨Nb,2,none⟩=_:=Dm.out.cell 2;have q3:w2.cell? ⟨Nb,3,none⟩=_:=Dm.out.cell 3;have q4:w2.cell? ⟨Nb,4,none⟩=_:=Dm.out.cell 4;have f0:=Dm.out.frozen 0;have f1:=Dm.out.frozen 1;have f2:=Dm.out.frozen 2;have f3:=Dm.out.frozen 3;have f4:=Dm.out.frozen 4;have zg:=hgb.lt;have nNg:¬Nb=gr:=by have:=B1.out.size;omega))
 have g0:=hgc 0 (by decide);have g1:=hgc 1 (by decide);clear hgc;go_wp2;refine ag (λ_=>False) #[⟨0,0,2^36,1,0⟩,⟨0,0,2^37,1,0⟩,⟨0,0,2^38,1,0⟩,⟨4,4,2^39,2^38,0⟩,⟨8,12,2^40,2^39,0⟩,⟨16,28,2^41,2^40,1⟩,⟨32,60,2^42,2^41,0⟩,⟨0,0,2^43,1,0⟩,⟨128,128,2^44,2^43,0⟩,⟨256,384,2^45,2^44,0⟩,⟨512,896,2^46,2^45,1⟩,⟨1024,1920,2^47,2^46,0⟩,⟨1149,2045,2^48,2^36,0⟩,⟨5245,6141,2^49,2^48,0⟩,⟨9341,14333,0,(2^42+2^49),3⟩,⟨32767,32767,2^50,2^37,0⟩,⟨65535,65535,2^51,2^50,0⟩,⟨98303,131071,0,(2^47+2^51),3⟩] 1056 [(0,0),(1,0),(2,0),(3,0),(4,0),(5,1),(6,0),(7,0),(8,0),(9,0),(10,1),(11,0),(12,0),(13,0),(14,3),(15,0),(16,0),(17,3)] (by kernel_rfl) (by kernel_rfl) (by kernel_rfl) (by kernel_rfl) (by kernel_rfl) (by kernel_rfl) (λc a d v w h=>by cases d <;> exact h) ?_;refine aj ?_;refine aj ?_;refine aj ?_;refine aj ?_;refine aj ?_;refine bW Tryz.underlying3 ?_
 try refine aC ?_;refine aj ?_;refine aj ?_;refine aj ?_;refine aj ?_
 refine bW Tryz.underlying3 ?_
 try refine aC ?_;refine aj ?_;refine aj ?_;refine aj ?_
 refine fA λK hK=>?_;go_wp2_with (fail);refine hK.out _ _ ?_;clear hK K
 try refine aC ?_;refine aj ?_;refine aj ?_
 refine fA λK hK=>?_;go_wp2_with (fail);refine hK.out _ _ ?_;clear hK K
 try refine aC ?_
 refine aD ?_;go_wp2;refine ag (λ_=>False) #[⟨0,0,2^52,1,0⟩,⟨1,1,2^53,2^52,0⟩,⟨2,3,2^54,2^53,0⟩,⟨4,7,2^55,2^54,1⟩,⟨8,15,2^56,2^55,0⟩,⟨0,0,2^57,1,0⟩,⟨32,32,2^58,2^57,0⟩,⟨64,96,2^59,2^58,0⟩,⟨128,224,2^60,2^59,1⟩,⟨0,0,2^61,16,0⟩,⟨512,512,2^62,2^61,0⟩,⟨1024,1536,2^63,2^62,1⟩,⟨2320,4095,2^64,(2^56+2^60+2^63),0⟩,⟨4096,8191,2^65,2^64,3⟩,⟨16383,16383,4,2^65,0⟩,⟨32767,32767,8,0,0⟩] 2312 [(0,0),(1,0),(2,0),(3,1),(4,0),(5,0),(6,0),(7,0),(8,1),(9,0),(10,0),(11,1),(12,0),(13,3),(14,0),(15,0)] (by kernel_rfl) (by kernel_rfl) (by kernel_rfl) (by kernel_rfl) (by kernel_rfl) (by kernel_rfl) (λc a d v w h=>by cases d <;> exact h) ?_;refine aj ?_;refine aj ?_;refine aj ?_;refine bW Tryz.underlying3 ?_
 try refine aC ?_;refine aj ?_;refine aj ?_;refine aj ?_;refine aj ?_
 refine bW Tryz.underlying3 ?_
 try refine aC ?_;refine aj ?_;refine aj ?_
 refine bW Tryz.underlying85 ?_
 try refine aC ?_;refine aj ?_
 refine fA λK hK=>?_;go_wp2_with (fail);refine hK.out _ _ ?_;clear hK K
 try refine aC ?_;refine aj ?_;refine aj ?_
 refine aD ?_;go_wp2;refine aJ (λWf hWf=>?_);go_ret2;obtain ⟨W5,hW5⟩:∃W5:World,W5=((((w2.setCell ⟨Nb,2,none⟩ (.pointer (some ⟨a 8,0,none⟩))).setCell ⟨Nb,3,none⟩ (.int .i64 0)).setCell ⟨Nb,4,none⟩ (.pointer none)).setCell ⟨Nb,0,none⟩ (.int .i64 (2*(x.p:Int)))).setCell ⟨Nb,1,none⟩ (.int .i64 ((x.d:Int)+1)):=⟨_,rfl⟩
 have hz5:W5.heap.size=w2.heap.size:=by rw [hW5];simp
 have hb5:af W5 Nb 90 #[.int .i64 (2*(x.p:Int)),.int .i64 ((x.d:Int)+1),.pointer (some ⟨a 8,0,none⟩),.int .i64 0,.pointer none]:=by
  rw [hW5];exact ((((Dm.out.set 2 _).set 3 _).set 4 _).set 0 _).set 1 _
 rw [<-hW5] at hWf;have jL:Below W5.heap.size W5 Wf:=by rw [hWf];exact (((aM _ _).alloc (aL _) _).drew).drew
 have QN:af Wf w2.heap.size 90 #[.int .i64 (2*(x.p:Int)+1),.int .i64 ((x.d:Int)+1),.pointer (some ⟨a 11,0,none⟩),.int .i64 0,.pointer none]:=by rw [hWf];exact (af.aF hz5.symm).drew.drew
 have hC5:ah (λb=>b=Nb) w2 W5:=by rw [hW5];exact (((((ah.refl _ _).set1 _ _).set1 _ _).set1 _ _).set1 _ _).set1 _ _
 have fI:ah (λb=>b=Nb) w2 Wf:=hC5.trans (ah.of_below jL);have hw2:w.heap.size<=w2.heap.size:=C2.out.size;have hw0:=HH.out.j3.size
 refine ⟨w2.heap.size,rfl,hw2,HEN.out w2 Wf 0 (2*x.p) (x.d+1) Nb hk0 DB.out (λb=>b=Nb) fI (λb e=>by rw [e];exact ⟨HH.out.n.1,N0.out⟩) ⟨HH.out.n.1,N0.out⟩ TD.out.1 ?_,
  HEN.out w2 Wf 1 (2*x.p+1) (x.d+1) w2.heap.size ai0 DB.out (λb=>b=Nb) fI (λb e=>by rw [e];exact ⟨HH.out.n.1,N0.out⟩) ⟨by omega,λe=>by have:=NL.out _ e;omega⟩ TD.out.2 ?_,C2.out.trans (fI.mono λb _ e => .inl e)⟩
 . push_cast
   exact hb5.below jL hb5.lt
 . push_cast
   exact QN
end
section
variable {w w' w0:World} {Nb:Nat} {a:Nat->Nat} {x:bH} {E:Nat->Addr}
def acA (B Q y:Nat):Nat:=if y=1 then B else if y=2 then Q else 0
theorem Ej (p d:Nat) (hd:d<=5) (hp:p<2 ^ d) (he:EC w0 E [1,2,4,5,14,16]) (hT:iB w0) (hb:Below w0.heap.size w0 w) :
 Calls Tryz.prog 6 #[.int .i64 (p:Int),.int .i64 (d:Int)] w λe w' => ∃Nb a,e = .returned (.tuple #[.pointer (some ⟨Nb,0,none⟩),.nilIface])/\w.heap.size<=Nb/\ND w' Nb a (bH.idle p d (ae.new 1)) E w0/\(∀b,NX a (bH.idle p d (ae.new 1)) b->w.heap.size<=b)/\Below w.heap.size w w':=by
 have HE:=aa he;have HT:=aa hT;have HB:=aa hb;have HP:=aa (And.intro hd hp);have N1:=aa (λ(w':World)=>aa6 1 (by decide) w');simp only [show ((1:Nat):Int)=1 from rfl] at N1;have LO:=aa (λ(w':World)=>adM p d (by omega) hp w');have h5:¬ (d:Int) > 5:=by omega
 have d5:decide ((d:Int) > 5)=false:=decide_eq_false h5;generalize ((Lg p d:Nat):Int)=lo at *
 clear he hT hb hp;go_enter Tryz.func6,Tryz.ntmps6
 go_wp2_with (first|(go_at_call 36;(with_reducible refine (LO.out w).mono ?_);rintro e w1 ⟨rfl,rfl⟩)|(go_at_call 37;(with_reducible refine (N1.out w).mono ?_);rintro e w1 ⟨B,Q,rfl,hB,hQ,ht,hb1⟩;have S1:=aa (eT.new (w0:=w0) (n:=1) (by decide) HE.out HT.out HB.out ht hb1 hB hQ);have B1:=aa hb1;clear ht hb1))
 refine aJ (λWf hWf=>?_);go_ret2;have hbf:Below w1.heap.size w1 Wf:=by rw [hWf];exact (aM _ _).alloc (aL _) _
 have hn:af Wf w1.heap.size 90 #[.int .i64 (p:Int),.int .i64 (d:Int),.pointer (some ⟨B,0,none⟩),.int .i64 0,.pointer none]:=by rw [hWf];exact af.new _ _ _
 have hw1:=B1.out.size;have hw0:=HB.out.size
 have hX:∀b,NX (acA B Q) (bH.idle p d (ae.new 1)) b->b=B\/b=Q:=λb e=>by
  rcases e with ⟨e,-⟩ | ⟨-,e⟩
  . cases e
  . exact e
 have hlB:=S1.out.Sg;have hlQ:=S1.out.Sd;refine ⟨w1.heap.size,acA B Q,rfl,hw1,⟨hn,λ_=>⟨S1.out.later hbf,(show 0<1*64 by decide)⟩,λe=>(by cases e),⟨by omega,λb e=>by rcases hX b e with e|e <;> omega⟩,HP.out⟩,λb e=>by rcases hX b e with e|e <;> omega,B1.out.trans (hbf.mono hw1)⟩
theorem ND.aiE (h:ND w Nb a x E w0) (hz:x.bz=false):Calls Tryz.prog 35 #[.pointer (some ⟨Nb,0,none⟩)] w λe w'=>e = .returned (.int .i64 x.s.T.lv)/\w=w':=by
 obtain ⟨c0,c1,c2,c3,c4,z⟩:=h.cells;rw [if_neg (by rw [hz];decide)] at c4;have LE:=aa (h.i hz).1.len;clear h c0 c1 c3 hz;go_enter Tryz.func35,Tryz.ntmps35
 go_wp2_with (go_at_call 47;(with_reducible refine LE.out.mono ?_);rintro e w1 ⟨rfl,rfl⟩)
 go_ret;exact ⟨rfl,rfl⟩
theorem ND.abV (h:ND w Nb a x E w0) (hz:x.bz=false):Calls Tryz.prog 34 #[.pointer (some ⟨Nb,0,none⟩)] w λe w'=>e = .returned (.int .i64 (x.s.T.n:Int))/\w=w':=by
 obtain ⟨c0,c1,c2,c3,c4,z⟩:=h.cells;rw [if_neg (by rw [hz];decide)] at c4;have LE:=aa (h.i hz).1.groups;clear h c0 c1 c3 hz;go_enter Tryz.func34,Tryz.ntmps34
 go_wp2_with (go_at_call 49;(with_reducible refine LE.out.mono ?_);rintro e w1 ⟨rfl,rfl⟩)
 go_ret;exact ⟨rfl,rfl⟩
end
section
variable {w w' w0:World} {Nb:Nat} {a:Nat->Nat} {x:bH} {E:Nat->Addr} {lp:Option Nat} {mt:aG}
def bH.len (x:bH):Int:=if x.bz=true then ((x.s.all x.s.k).length:Int) else x.s.T.lv
def bH.tmb (x:bH):Int:=if x.bz=true then 0 else x.s.T.tb
def bH.grp (x:bH):Int:=if x.bz=true then ((x.s.T.n+x.s.k*x.s.gn:Nat):Int) else (x.s.T.n:Int)
def bH.lft (x:bH):Int:=if x.bz=true then ((x.s.left:Nat):Int) else 0
theorem ND.aiF (h:ND w Nb a x E w0):Calls Tryz.prog 35 #[.pointer (some ⟨Nb,0,none⟩)] w λe w'=>e = .returned (.int .i64 x.len)/\Below w.heap.size w w':=by
 obtain ⟨c0,c1,c2,c3,c4,z⟩:=h.cells;unfold bH.len;cases hz:x.bz with
 | true =>
  rw [hz,if_pos rfl] at c4;rw [if_pos rfl];have LE:=aa (h.u hz).len;clear h c0 c1 c2 c3 hz;go_enter Tryz.func35,Tryz.ntmps35
  go_wp2_with (go_at_call 86;(with_reducible refine LE.out.mono ?_);rintro e w1 ⟨rfl,hb1⟩;have B1:=aa hb1)
  go_ret;exact ⟨rfl,B1.out⟩
 | false =>
  rw [hz,if_neg (by decide)] at c4;rw [if_neg (by decide)];have LE:=aa (h.i hz).1.len;clear h c0 c1 c3 hz;go_enter Tryz.func35,Tryz.ntmps35
  go_wp2_with (go_at_call 47;(with_reducible refine LE.out.mono ?_);rintro e w1 ⟨rfl,rfl⟩)
  go_ret;exact ⟨rfl,by go_grown⟩
theorem ND.adm (h:ND w Nb a x E w0):Calls Tryz.prog 81 #[.pointer (some ⟨Nb,0,none⟩)] w λe w'=>e = .returned (.int .i64 x.tmb)/\Below w.heap.size w w':=by
 obtain ⟨c0,c1,c2,c3,c4,z⟩:=h.cells;unfold bH.tmb;cases hz:x.bz with
 | true =>
  rw [hz,if_pos rfl] at c4;rw [if_pos rfl];clear h c0 c1 c2 c3 hz;go_enter Tryz.func81,Tryz.ntmps81
  go_wp2;go_ret;exact ⟨rfl,by go_grown⟩
 | false =>
  rw [hz,if_neg (by decide)] at c4;rw [if_neg (by decide)];have LE:=aa (h.i hz).1.acx;clear h c0 c1 c3 hz;go_enter Tryz.func81,Tryz.ntmps81
  go_wp2_with (go_at_call 48;(with_reducible refine LE.out.mono ?_);rintro e w1 ⟨rfl,rfl⟩)
  go_ret;exact ⟨rfl,by go_grown⟩
theorem ND.abW (h:ND w Nb a x E w0):Calls Tryz.prog 34 #[.pointer (some ⟨Nb,0,none⟩)] w λe w'=>e = .returned (.int .i64 x.grp)/\Below w.heap.size w w':=by
 obtain ⟨c0,c1,c2,c3,c4,z⟩:=h.cells;unfold bH.grp;cases hz:x.bz with
 | true =>
  rw [hz,if_pos rfl] at c4;rw [if_pos rfl];have LE:=aa (h.u hz).groups;clear h c0 c1 c2 c3 hz;go_enter Tryz.func34,Tryz.ntmps34
  go_wp2_with (go_at_call 85;(with_reducible refine LE.out.mono ?_);rintro e w1 ⟨rfl,hb1⟩;have B1:=aa hb1)
  go_ret;exact ⟨rfl,by rw [<-B1.out];exact aM _ _⟩
 | false =>
  rw [hz,if_neg (by decide)] at c4;rw [if_neg (by decide)];have LE:=aa (h.i hz).1.groups;clear h c0 c1 c3 hz;go_enter Tryz.func34,Tryz.ntmps34
  go_wp2_with (go_at_call 49;(with_reducible refine LE.out.mono ?_);rintro e w1 ⟨rfl,rfl⟩)
  go_ret;exact ⟨rfl,by go_grown⟩
theorem ND.aga (h:ND w Nb a x E w0):Calls Tryz.prog 82 #[.pointer (some ⟨Nb,0,none⟩)] w λe w'=>e = .returned (.int .i64 x.lft)/\Below w.heap.size w w':=by
 obtain ⟨c0,c1,c2,c3,c4,z⟩:=h.cells;unfold bH.lft;cases hz:x.bz with
 | true =>
  rw [hz,if_pos rfl] at c4;rw [if_pos rfl];have LE:=aa (h.u hz).left;clear h c0 c1 c2 c3 hz;go_enter Tryz.func82,Tryz.ntmps82
  go_wp2_with (go_at_call 55;(with_reducible refine LE.out.mono ?_);rintro e w1 ⟨rfl,hb1⟩;have B1:=aa hb1)
  go_ret;exact ⟨rfl,B1.out⟩
 | false =>
  rw [hz,if_neg (by decide)] at c4;rw [if_neg (by decide)];clear h c0 c1 c2 c3 hz;go_enter Tryz.func82,Tryz.ntmps82
  go_wp2;go_ret;exact ⟨rfl,by go_grown⟩
theorem ND.aiG (h:ND w Nb a x E w0):Calls Tryz.prog 80 #[.pointer (some ⟨Nb,0,none⟩)] w λe w'=>e = .returned (.int .i64 x.Ey)/\Below w.heap.size w w':=by
 obtain ⟨c0,c1,c2,c3,c4,z⟩:=h.cells;clear h c0 c1 c2 c4;go_enter Tryz.func80,Tryz.ntmps80
 go_wp2;go_ret;exact ⟨rfl,by go_grown⟩
def bH.MQ (x:bH) (key hash:Int):ai×Bool:=if x.bz=true then x.s.least ⟨key,0,hash⟩ else x.s.T.least ⟨key,0,hash⟩
theorem ND.least (h:ND w Nb a x E w0) (hl:LW w lp mt) (hs:kQ lp a x Nb w0.heap.size) (key hash:Int) (q:Option Addr) (hq:di q lp) (x1 y1 z1:Int) :
 Calls Tryz.prog 25 #[.pointer (some ⟨Nb,0,none⟩),.agg #[.pointer q,.int .i64 x1,.int .i64 y1,.int .i64 z1],.int .u64 hash,.int .u64 key] w λe w' =>
  e = .returned (.tuple #[.agg #[.int .u64 (x.MQ key hash).1.key,.int .u64 (x.MQ key hash).1.val,.int .u64 (x.MQ key hash).1.hash],.bool ((x.MQ key hash).2)])/\ND w' Nb a x E w0/\(∃n:Nat,LW w' lp (addN mt x1 y1 z1 n))/\ah (λb=>lp=some b) w w':=by
 have HH:=aa h;have HS:=aa hs;have NE:=aa (show ∀b,w.heap.size<=b->¬lp=some b from λb hb e=>by have:=(hl b e).lt;omega);have nx1:¬lp=some Nb:=λe=>(hs Nb e).2.2 rfl;have nx2:¬lp=some w.heap.size:=NE.out _ (aL _);have NXL:=aa (NX.lt h);obtain ⟨c0,c1,c2,c3,c4,z⟩:=h.cells;cases hz:x.bz with
 | false =>
  rw [hz] at c4;simp only [Bool.false_eq_true,if_false] at c4;obtain ⟨ht,Ka⟩:=h.i hz;rw [show x.MQ key hash=x.s.T.least ⟨key,0,hash⟩ from by unfold bH.MQ;rw [hz];exact if_neg (by decide)];have FN:=aa (λ(W:World) (hb2:Below w.heap.size w W)=>DJ _ _ _ ht.good key hash q lp hq mt x1 y1 z1 W (ht.later hb2).t (hl.later hb2) ((hs.t hz).oq (hl.later hb2) (ht.later hb2).low.lt) (ht.later hb2).low.t);generalize (x.s.T.least ⟨key,0,hash⟩).1.key=ek at *
  generalize (x.s.T.least ⟨key,0,hash⟩).1.val=ev at *
  generalize (x.s.T.least ⟨key,0,hash⟩).1.hash=eh at *
  generalize (x.s.T.least ⟨key,0,hash⟩).2=th at *
  clear h ht hl hs c0 c1 c3;go_enter Tryz.func25,Tryz.ntmps25
  go_wp2;refine bG (λW hW=>?_);have hBW:Below w.heap.size w W:=by rw [hW];exact ((aM _ _).alloc (aL _) _).alloc (by simp) _
  have l8:af W w.heap.size 50 #[.pointer q,.int .i64 x1,.int .i64 y1,.int .i64 z1]:=by rw [hW];exact (af.new _ _ _).alloc _
  have e8:af W (w.heap.size+1) 46 #[.int .u64 0,.int .u64 0,.int .u64 0]:=by rw [hW];exact af.aF (by simp)
  have hzW:w.heap.size+1<W.heap.size:=e8.lt;obtain ⟨l0,l1,l2,l3⟩:W.cell? ⟨w.heap.size,0,none⟩=_/\W.cell? ⟨w.heap.size,1,none⟩=_/\W.cell? ⟨w.heap.size,2,none⟩=_/\W.cell? ⟨w.heap.size,3,none⟩=_:=⟨l8.cell 0,l8.cell 1,l8.cell 2,l8.cell 3⟩
  have d2:=(hBW.cell (p:=⟨Nb,2,none⟩) z).trans c2;have d4:=(hBW.cell (p:=⟨Nb,4,none⟩) z).trans c4;have zN:Nb<W.heap.size:=by omega
  have Dw:=aa hBW;have E8:=aa e8;have Tz:=aa (HH.out.later hBW.drew);clear hW hBW l8 e8 c2 c4;refine ag (λb=>lp=some b) #[⟨0,0,2^25,1,0⟩,⟨1,1,2^26,2^25,0⟩,⟨2,3,2^27,2^26,0⟩,⟨4,7,2^28,2^27,1⟩,⟨0,0,2^29,32,1⟩,⟨0,0,2^30,4,0⟩,⟨0,0,2^31,8,0⟩,⟨120,127,2^32,4026531840,3⟩,⟨128,255,2^33,2^32,0⟩,⟨128,255,2^34,2^32,0⟩,⟨1023,1023,0,(2^8+2^33),3⟩,⟨2047,2047,512,2^34,0⟩] 24 [(0,0),(1,0),(2,0),(3,1),(4,1),(5,0),(6,0),(7,3),(8,0),(9,0),(10,3),(11,0)] (by kernel_rfl) (by kernel_rfl) (by kernel_rfl) (by kernel_rfl) (by kernel_rfl) (by kernel_rfl) (λc a d v w h=>by cases d <;> exact h) ?_;refine aj ?_;refine aj ?_;refine aj ?_;refine bW Tryz.underlying85 ?_
  try refine aC ?_
  refine jR [_,_,_,_] Tryz.underlying50 ?_
  try refine aC ?_;refine aj ?_;refine aj ?_
  refine fA λK hK=>?_;go_wp2_with (go_at_call 71;((with_reducible refine (FN.out _ Dw.out.drew).mono ?_);rintro e w1 ⟨rfl,ht1,hc1⟩;have L1:=aa ht1;have E1:=aa (E8.out.drew.aA hc1 (NE.out _ (by omega)));have N1:=aa (Tz.out.aA hc1 (λb e=>(HS.out b e).1) nx1 (λb hb e=>(HS.out b e).2.1 hb));have C1:=aa hc1;have g0:=E1.out.frozen 0;have g1:=E1.out.frozen 1;have g2:=E1.out.frozen 2;obtain ⟨k0,k1,k2⟩:=cells3 E1.out;have zE:=E1.out.lt));refine hK.out _ _ ?_;clear hK K
  try refine aC ?_;refine aj ?_;refine aj ?_
  refine fA λK hK=>?_;go_wp2_with (fail);refine hK.out _ _ ?_;clear hK K
  try refine aC ?_;refine aj ?_
  refine aD ?_;go_wp2;refine aJ (λWf hWf=>?_);have hR:af Wf (w.heap.size+1) 46 #[.int .u64 ek,.int .u64 ev,.int .u64 eh]:=by rw [hWf];exact ((E1.out.set 0 _).set 1 _).set 2 _
  have fI:ah (λb=>b=w.heap.size+1) w1 Wf:=by rw [hWf];exact (((ah.refl _ _).set1 _ _).set1 _ _).set1 _ _
  obtain ⟨r0,r1,r2⟩:=cells3 hR;refine bodyPost_ret (v := .tuple #[.agg #[.int .u64 ek,.int .u64 ev,.int .u64 eh],.bool th]) (by simp [results,Tryz.results25,go_sem,r0,r1,r2]) rfl ⟨rfl,?_,?_,?_⟩
  . exact N1.out.aA fI (λb e=>by have:=HH.out.j3.size;omega) (λe=>by omega) (λb hb e=>by have:=NXL.out b hb;omega)
  . exact ⟨_,L1.out.aA fI (λb e f=>NE.out b (by omega) e)⟩
  . exact ((ah.of_below Dw.out).trans C1.out.bS).trans' fI (λb hb e=>by omega)
 | true =>
  rw [hz] at c4;simp only [if_true] at c4;rw [show x.MQ key hash=x.s.least ⟨key,0,hash⟩ from by unfold bH.MQ;rw [hz];exact if_pos rfl];have FN:=aa (λ(W:World) (hb2:Below w.heap.size w W)=>((h.u hz).later hb2).least (hl.later hb2) (hs.v hz) key hash q hq x1 y1 z1);generalize (x.s.least ⟨key,0,hash⟩).1.key=ek at *
  generalize (x.s.least ⟨key,0,hash⟩).1.val=ev at *
  generalize (x.s.least ⟨key,0,hash⟩).1.hash=eh at *
  generalize (x.s.least ⟨key,0,hash⟩).2=th at *
  clear h hl hs c0 c1 c3;go_enter Tryz.func25,Tryz.ntmps25
  go_wp2;refine bG (λW hW=>?_);have hBW:Below w.heap.size w W:=by rw [hW];exact ((aM _ _).alloc (aL _) _).alloc (by simp) _
  have l8:af W w.heap.size 50 #[.pointer q,.int .i64 x1,.int .i64 y1,.int .i64 z1]:=by rw [hW];exact (af.new _ _ _).alloc _
  have e8:af W (w.heap.size+1) 46 #[.int .u64 0,.int .u64 0,.int .u64 0]:=by rw [hW];exact af.aF (by simp)
  have hzW:w.heap.size+1<W.heap.size:=e8.lt;obtain ⟨l0,l1,l2,l3⟩:W.cell? ⟨w.heap.size,0,none⟩=_/\W.cell? ⟨w.heap.size,1,none⟩=_/\W.cell? ⟨w.heap.size,2,none⟩=_/\W.cell? ⟨w.heap.size,3,none⟩=_:=⟨l8.cell 0,l8.cell 1,l8.cell 2,l8.cell 3⟩
  have d2:=(hBW.cell (p:=⟨Nb,2,none⟩) z).trans c2;have d4:=(hBW.cell (p:=⟨Nb,4,none⟩) z).trans c4;have zN:Nb<W.heap.size:=by omega
  have Dw:=aa hBW;have E8:=aa e8;have Tz:=aa (HH.out.later hBW.drew);clear hW hBW l8 e8 c2 c4;refine ag (λb=>lp=some b) #[⟨0,0,2^15,1,0⟩,⟨1,1,2^16,2^15,0⟩,⟨2,3,2^17,2^16,0⟩,⟨4,7,2^18,2^17,1⟩,⟨0,0,2^19,32,1⟩,⟨0,0,2^20,4,0⟩,⟨0,0,2^21,8,0⟩,⟨120,127,2^22,3932160,3⟩,⟨128,255,2^23,2^22,0⟩,⟨128,255,2^24,2^22,0⟩,⟨1023,1023,0,(2^8+2^23),3⟩,⟨2047,2047,512,2^24,0⟩] 24 [(0,0),(1,0),(2,0),(3,1),(4,1),(5,0),(6,0),(7,3),(8,0),(9,0),(10,3),(11,0)] (by kernel_rfl) (by kernel_rfl) (by kernel_rfl) (by kernel_rfl) (by kernel_rfl) (by kernel_rfl) (λc a d v w h=>by cases d <;> exact h) ?_;refine aj ?_;refine aj ?_;refine aj ?_;refine bW Tryz.underlying88 ?_
  try refine aC ?_
  refine jR [_,_,_,_] Tryz.underlying50 ?_
  try refine aC ?_;refine aj ?_;refine aj ?_
  refine fA λK hK=>?_;go_wp2_with (go_at_call 70;((with_reducible refine (FN.out _ Dw.out.drew).mono ?_);rintro e w1 ⟨rfl,hu1,hl1,hc1⟩;have L1:=aa hl1;have E1:=aa (E8.out.drew.aA hc1 (NE.out _ (by omega)));have N1:=aa (Tz.out.aA hc1 (λb e=>(HS.out b e).1) nx1 (λb hb e=>(HS.out b e).2.1 hb));have C1:=aa hc1;have g0:=E1.out.frozen 0;have g1:=E1.out.frozen 1;have g2:=E1.out.frozen 2;obtain ⟨k0,k1,k2⟩:=cells3 E1.out;have zE:=E1.out.lt;clear hu1 hl1));refine hK.out _ _ ?_;clear hK K
  try refine aC ?_;refine aj ?_;refine aj ?_
  refine fA λK hK=>?_;go_wp2_with (fail);refine hK.out _ _ ?_;clear hK K
  try refine aC ?_;refine aj ?_
  refine aD ?_;go_wp2;refine aJ (λWf hWf=>?_);have hR:af Wf (w.heap.size+1) 46 #[.int .u64 ek,.int .u64 ev,.int .u64 eh]:=by rw [hWf];exact ((E1.out.set 0 _).set 1 _).set 2 _
  have fI:ah (λb=>b=w.heap.size+1) w1 Wf:=by rw [hWf];exact (((ah.refl _ _).set1 _ _).set1 _ _).set1 _ _
  obtain ⟨r0,r1,r2⟩:=cells3 hR;refine bodyPost_ret (v := .tuple #[.agg #[.int .u64 ek,.int .u64 ev,.int .u64 eh],.bool th]) (by simp [results,Tryz.results25,go_sem,r0,r1,r2]) rfl ⟨rfl,?_,?_,?_⟩
  . exact N1.out.aA fI (λb e=>by have:=HH.out.j3.size;omega) (λe=>by omega) (λb hb e=>by have:=NXL.out b hb;omega)
  . exact ⟨_,L1.out.aA fI (λb e f=>NE.out b (by omega) e)⟩
  . exact ((ah.of_below Dw.out).trans C1.out.bS).trans' fI (λb hb e=>by omega)
end
section
variable {w w' w0:World} {Nb:Nat} {a:Nat->Nat} {x:bH} {E:Nat->Addr} {mt:aG} {M:Nat}
def bH.jV (x:bH) (kind:Int):Nat:=if x.bz=true then 5 else if fK kind (x.s.T.n:Int)≠0 then fK kind (x.s.T.n:Int) else if kind=3/\x.d=5 then 1 else 0
theorem Jk {kind:Int} (h:x.jV kind=0) (hd:x.d<=5):x.bz=false/\fK kind (x.s.T.n:Int)=0/\(kind=3->x.d<5):=by
 unfold bH.jV at h;rcases Bool.eq_false_or_eq_true x.bz with hz|hz
 . rw [if_pos hz] at h;cases h
 . rw [if_neg (by rw [hz];decide)] at h;by_cases hb:fK kind (x.s.T.n:Int)=0
   . rw [if_neg (λe=>e hb)] at h;refine ⟨hz,hb,λe=>?_⟩;by_cases h5:x.d=5
     . rw [if_pos ⟨e,h5⟩] at h;cases h
     . omega
   . rw [if_pos hb] at h;exact absurd h hb
theorem ND.Jj (h:ND w Nb a x E w0) (kind:Int) (hn:x.jV kind≠0):Calls Tryz.prog 14 #[.pointer (some ⟨Nb,0,none⟩),.int .i64 kind] w λe w'=>e = .returned (aO E (x.jV kind))/\Below w.heap.size w w':=by
 obtain ⟨c0,c1,c2,c3,c4,z⟩:=h.cells;have e5:w.cell? ⟨2,0,none⟩=some (aO E 5):=h.low.e 5 (by decide);have ER:=aa (show ∀W,Below w.heap.size w W->W.cell? ⟨0,0,none⟩=some (aO E 1) from λW hb=>(h.low.below hb).e 1 (by decide));unfold bH.jV at hn ⊢;cases hz:x.bz with
 | true =>
  rw [hz,if_pos rfl] at c4;rw [if_pos rfl];unfold aO at e5 ⊢;clear h c0 c1 c2 c3 hz hn ER;go_enter Tryz.func14,Tryz.ntmps14
  go_wp2;go_ret;exact ⟨rfl,by go_grown⟩
 | false =>
  rw [hz,if_neg (by decide)] at c4 hn;rw [if_neg (by decide)];obtain ⟨ht,-⟩:=h.i hz;have GR:=aa ht.groups;have CG:=aa (λ(W:World) (hb:Below w.heap.size w W)=>EP kind (x.s.T.n:Int) E W ((ht.later hb).low.e 1 (by decide)) ((ht.later hb).low.e 14 (by decide)));have LB:=h.pd.1;generalize x.s.T.n=n at *
  generalize x.d=d at *
  by_cases hb:fK kind (n:Int)=0
  . rw [if_neg (λe=>e hb)] at hn ⊢;by_cases h3:kind=3/\d=5
    . rw [if_pos h3];obtain ⟨rfl,rfl⟩:=h3;rw [mf hb,show oW 3=2 from rfl] at CG;generalize mU 3 (n:Int)=ef at *
      have e1:=ER.out w (aM _ _);unfold aO at e1 ⊢;clear h ht hz hn hb e5 c0 c3 LB;go_enter Tryz.func14,Tryz.ntmps14
      go_wp2_with (first|(go_at_call 49;(with_reducible refine GR.out.mono ?_);rintro e w1 ⟨rfl,rfl⟩)|(go_at_call 52;(with_reducible refine (CG.out _ (aM _ _)).mono ?_);rintro e w1 ⟨rfl,dm,rfl⟩;have B1:=below_drewN (aM w.heap.size w) dm;have e1d:=ER.out _ B1;unfold aO at e1d;have d1:=(B1.cell (p:=⟨Nb,1,none⟩) z).trans c1;have zd:=bM z B1.size))
      go_ret;exact ⟨rfl,B1⟩
    . rw [if_neg h3] at hn;exact absurd rfl hn
  . rw [if_pos hb];rw [jv rfl hb] at CG;generalize fK kind (n:Int)=bf at *
    unfold aO;clear h ht hz hn hb e5 c0 c1 c3 LB ER;go_enter Tryz.func14,Tryz.ntmps14
    go_wp2_with (first|(go_at_call 49;(with_reducible refine GR.out.mono ?_);rintro e w1 ⟨rfl,rfl⟩)|(go_at_call 52;(with_reducible refine (CG.out _ (aM _ _)).mono ?_);rintro e w1 ⟨rfl,dm,rfl⟩;have B1:=below_drewN (aM w.heap.size w) dm))
    go_ret;exact ⟨rfl,B1⟩
theorem ND.Mh (h:ND w Nb a x E w0) (hn:(x.bz && decide (x.s.left=0))=false):Calls Tryz.prog 17 #[.pointer (some ⟨Nb,0,none⟩)] w λe w'=>e = .returned (.tuple #[.pointer none,aO E 5])/\Below w.heap.size w w':=by
 have DN:=aa h.Ml;rw [hn] at DN;have ER:=aa (show ∀W,Below w.heap.size w W->W.cell? ⟨2,0,none⟩=some (aO E 5) from λW hb=>(h.low.below hb).e 5 (by decide));unfold aO at ER ⊢;clear h hn;go_enter Tryz.func17,Tryz.ntmps17
 go_wp2_with (go_at_call 16;(with_reducible refine DN.out.mono ?_);rintro e w1 ⟨rfl,hb1⟩;have B1:=aa hb1;have e5:=ER.out _ hb1;have e5d:=ER.out _ (hb1.trans ((aM _ _).drew.mono hb1.size)))
 go_wp2;refine ag (λ_=>False) #[⟨0,0,512,0,1⟩,⟨0,0,4,0,0⟩,⟨3,3,8,512,0⟩] 1 [(0,1),(1,0),(2,0)] (by kernel_rfl) (by kernel_rfl) (by kernel_rfl) (by kernel_rfl) (by kernel_rfl) (by kernel_rfl) (λc a d v w h=>by cases d <;> exact h) ?_;refine bW Tryz.underlying27 ?_
 try refine aC ?_;refine aj ?_;refine aj ?_
 refine aD ?_;go_wp2;go_ret2;exact ⟨rfl,B1.out.trans ((aM _ _).drew.mono B1.out.size)⟩
def bH.bad (x:bH):Prop:=x.bz=true/\x.s.bare=0/\x.s.nx<x.s.T.n/\¬nH x.s.k x.s.d (aS (x.s.T.M x.s.nx) (x.s.T.S x.s.nx)) x.s.U
theorem ND.AP (h:ND w Nb a x E w0) (hM:af w M 37 mt.cells) (hl:mt.limited=false) (hs:kQ (some M) a x Nb w0.heap.size) (hx:x.bad) (hbr:∀w',Below w0.heap.size w0 w'->w'.cell? ⟨4,0,none⟩=some (aO E 10)) :
 Calls Tryz.prog 15 #[.pointer (some ⟨Nb,0,none⟩),.pointer (some ⟨M,0,none⟩)] w λe w'=>e = .panicked [{ v:=iA (aO E 10),recovered:=false}]/\ah (λb=>b=M\/NX a x b) w w':=by
 obtain ⟨hz,h0,hn,hev⟩:=hx;obtain ⟨c0,c1,c2,c3,c4,z⟩:=h.cells;rw [if_pos hz] at c4;have hv:=h.u hz;have hls:=hs.v hz;unfold j4 at hls
 have SB:Calls Tryz.prog 54 #[.pointer (some ⟨a 0,0,none⟩),.pointer (some ⟨M,0,none⟩)] w λe w'=>e = .panicked [{ v:=iA (aO E 10),recovered:=false}]/\ah (λb=>b=M\/NX a x b) w w':=by
  rcases hv.m with ⟨aT,hA⟩ | ⟨aT,dz,cap5,hB⟩
  . have:=hA.hb;omega
  . rw [decide_eq_true h0] at hls;refine (hB.AP hv.ok hM hls hl hn hev hbr).mono ?_;rintro e w' ⟨rfl,g⟩
    exact ⟨rfl,g.mono (λb _ e=>e.imp id (λe => .inl ⟨hz,e⟩))⟩
 have SB:=aa SB;clear h hM hl hs hbr hv hls c0 c1 c2 c3 hev hn h0;go_enter Tryz.func15,Tryz.ntmps15
 go_wp2_with (go_at_call 54;(with_reducible refine SB.out.mono ?_);rintro e w1 ⟨rfl,hc1⟩;have C1:=aa hc1;clear hc1)
 exact ⟨rfl,rfl,C1.out⟩
end
def afd (d:Int):Prop:=0<=d/\d<=5
theorem NH (d:Int) (hd:¬afd d) (E:Nat->Addr) (w:World) (he:EC w E [1]) :
 Calls Tryz.prog 6 #[.int .i64 0,.int .i64 d] w λe w'=>e = .returned (.tuple #[.pointer none,aO E 1])/\Below w.heap.size w w':=by
 have e1:w.cell? ⟨0,0,none⟩=some (aO E 1):=he 1 (by decide);by_cases h5:d > 5
 . have d5:decide (d > 5)=true:=decide_eq_true h5;unfold aO at e1 ⊢;clear he hd;go_enter Tryz.func6,Tryz.ntmps6
   go_wp2;refine ag (λ_=>False) #[⟨0,0,4096,0,1⟩,⟨0,0,16,0,0⟩,⟨3,3,32,4096,0⟩] 1 [(0,1),(1,0),(2,0)] (by kernel_rfl) (by kernel_rfl) (by kernel_rfl) (by kernel_rfl) (by kernel_rfl) (by kernel_rfl) (λc a d v w h=>by cases d <;> exact h) ?_;refine bW Tryz.underlying27 ?_
   try refine aC ?_;refine aj ?_;refine aj ?_
   refine aD ?_;go_wp2;go_ret2;exact ⟨rfl,(aM _ _).drew⟩
 . have d5:decide (d > 5)=false:=decide_eq_false h5;have LO:=aa (abz 0 d (λe=>hd ⟨by have:=e.1;unfold Pre at e;omega,by omega⟩) E w he);unfold aO at LO ⊢;clear he hd e1;go_enter Tryz.func6,Tryz.ntmps6
   go_wp2_with (go_at_call 36;(with_reducible refine LO.out.mono ?_);rintro e w1 ⟨rfl,rfl⟩)
   go_ret2;exact ⟨rfl,(aM _ _).drew⟩
end Go.Proofs.YtolhmibejhldkaaGreatDoor
