/- Joined texts; conditions within. -/
import Derived.Test.YtolhmibejhldkaaGreatDoorPkDual2
set_option linter.unusedVariables false
set_option linter.unusedSimpArgs false
set_option maxRecDepth 100000
set_option maxHeartbeats 200000
namespace Go.Proofs.YtolhmibejhldkaaGreatDoor
open Go.RowKit Go.Proofs
def DuS.bX (s:DuS):DuS:=if s.bare=0 then (if s.nx<s.T.n then s.move else s) else s.je
def DuS.adt (s:DuS) (mt:aG):aG:=if s.bare=0 then (if s.nx<s.T.n then addN (mt.add 0 0 1) 0 1 0 (1+(jN s.k s.d (aS (s.T.M s.nx) (s.T.S s.nx)) (s.U,0)).2) else mt) else (mt.add 0 1 0).add 0 0 1
def DuS.sH (s:DuS):Prop:=s.bare=0->s.nx<s.T.n->nH s.k s.d (aS (s.T.M s.nx) (s.T.S s.nx)) s.U
structure DZ (w:World) (n:Nat) (a:Nat->Nat->Nat) (s:Nat->DuS) (tk:Bool) (M:Nat) (mt:aG) (K:Nat->Prop) (E:Nat->Addr) (w0:World):Prop where
 v:∀i,i<n->fM w (a i) (s i) tk E w0
 m:af w M 37 mt.cells
 ml:mt.limited=false
 mz:w0.heap.size<=M/\¬K M
 am:∀i,i<n->∀b,oU (a i) (s i) b->b≠M/\¬K b
 ap:∀i j,i<n->j<n->i≠j->∀b,oU (a i) (s i) b->¬oU (a j) (s j) b
 kz:∀b,K b->b<w.heap.size
 hb:Below w0.heap.size w0 w
def GG (w:World) (n:Nat) (D:Nat->Nat) (s:Nat->DuS) (tk:Bool) (M:Nat) (mt:aG) (K:Nat->Prop) (E:Nat->Addr) (w0:World):Prop := ∃a,(∀i,i<n->a i 0=D i)/\DZ w n a s tk M mt K E w0
def KC (K:Nat->Prop) (n0:Nat) (b:Nat):Prop:=n0<=b/\¬K b
section
variable {w w' w0:World} {n:Nat} {a:Nat->Nat->Nat} {s:Nat->DuS} {tk:Bool} {M:Nat} {mt jX:aG} {K:Nat->Prop} {E:Nat->Addr} {D:Nat->Nat}
theorem DZ.later (h:DZ w n a s tk M mt K E w0) (hb:Below w.heap.size w w'):DZ w' n a s tk M mt K E w0 :=
 ⟨λi hi=>(h.v i hi).later hb,h.m.below hb h.m.lt,h.ml,h.mz,h.am,h.ap,λb hK=>bM (h.kz b hK) hb.size,h.hb.trans (hb.mono h.hb.size)⟩
theorem GG.later (h:GG w n D s tk M mt K E w0) (hb:Below w.heap.size w w'):GG w' n D s tk M mt K E w0:=by
 obtain ⟨a,h0,h1⟩:=h;exact ⟨a,h0,h1.later hb⟩
theorem DZ.aA {Y:Nat->Prop} (h:DZ w n a s tk M mt K E w0) (hc:ah Y w w') (h0:∀b,Y b->w0.heap.size<=b) (hY:∀b,Y b->b≠M/\∀i,i<n->¬oU (a i) (s i) b):DZ w' n a s tk M mt K E w0 :=
 ⟨λi hi=>(h.v i hi).aA hc h0 (λx hx e=>(hY _ e).2 i hi ⟨x,hx,rfl⟩),h.m.aA hc (λe=>(hY _ e).1 rfl),h.ml,h.mz,h.am,h.ap,λb hK=>bM (h.kz b hK) hc.size,
  h.hb.trans (hc.below h.hb.size (λk hk e=>by have:=h0 k e;omega))⟩
theorem DZ.lens (h:DZ w n a s tk M mt K E w0) {i:Nat} (hi:i<n):j4 (some M) (a i) (s i) w0.heap.size:=λb e=>by
 cases e
 exact ⟨h.mz.1,λx hx e=>(h.am i hi _ ⟨x,hx,rfl⟩).1 e.symm⟩
theorem fM.xlt {b:Nat} {a:Nat->Nat} {s:DuS} (h:fM w a s tk E w0) (hb:oU a s b):b<w.heap.size/\w0.heap.size<=b:=by
 obtain ⟨x,hx,rfl⟩:=hb;exact ⟨h.lt x hx,h.n.ge x hx⟩
theorem DZ.turn {i:Nat} {a2:Nat->Nat} {s2:DuS} (h:DZ w n a s tk M mt K E w0) (hi:i<n) (hv:fM w' a2 s2 tk E w0) (hm:af w' M 37 jX.cells) (hl:jX.limited=false) (hX:∀b,oU a2 s2 b->oU (a i) (s i) b\/w.heap.size<=b) (hc:ah (λb=>b=M\/oU (a i) (s i) b) w w') :
 DZ w' n (upd a i a2) (upd s i s2) tk M jX K E w0/\ah (KC K w0.heap.size) w w':=by
 have hx:=λb e=>(h.v i hi).xlt (b:=b) e
 have hY0:∀b,b=M\/oU (a i) (s i) b->w0.heap.size<=b:=λb e=>by
  rcases e with e|e
  . rw [e];exact h.mz.1
  . exact (hx b e).2
 have hv2:=λj (hj:j<n) (hne:j≠i)=>(h.v j hj).aA hc hY0 (λx hx e=>by
  rcases e with e|e
  . exact (h.am j hj _ ⟨x,hx,rfl⟩).1 e
  . exact h.ap j i hj hi hne _ ⟨x,hx,rfl⟩ e)
 refine ⟨⟨λj hj=>?_,hm,hl,h.mz,λj hj b hb=>?_,λj j2 hj hj2 hne b hb=>?_,λb hK=>bM (h.kz b hK) hc.size,h.hb.trans (hc.below h.hb.size (λk hk e=>by have:=hY0 k e;omega))⟩,hc.mono (λb _ e=>⟨hY0 b e,λhK=>?_⟩)⟩
 . by_cases e:j=i
   . subst e;rw [upd_same,upd_same];exact hv
   . rw [ay _ _ e,ay _ _ e];exact hv2 j hj e
 . by_cases e:j=i
   . subst e;rw [upd_same,upd_same] at hb;rcases hX b hb with e|e
     . exact h.am j hj b e
     . exact ⟨λe2=>by have:=h.m.lt;omega,λhK=>by have:=h.kz b hK;omega⟩
   . rw [ay _ _ e,ay _ _ e] at hb;exact h.am j hj b hb
 . by_cases e:j=i
   . subst e;have e2:j2≠j:=λe=>hne e.symm;rw [upd_same,upd_same] at hb;rw [ay _ _ e2,ay _ _ e2];rcases hX b hb with e|e
     . exact h.ap j j2 hj hj2 hne b e
     . intro e3;have:=((h.v j2 hj2).xlt e3).1;omega
   . rw [ay _ _ e,ay _ _ e] at hb;by_cases e2:j2=i
     . subst e2;rw [upd_same,upd_same];intro e3;rcases hX b e3 with e4|e4
       . exact h.ap j j2 hj hj2 hne b hb e4
       . have:=((h.v j hj).xlt hb).1;omega
     . rw [ay _ _ e2,ay _ _ e2];exact h.ap j j2 hj hj2 hne b hb
 . rcases e with e|e
   . rw [e] at hK;exact h.mz.2 hK
   . exact (h.am i hi b e).2 hK
theorem GG.JA {i:Nat} {a2:Nat->Nat} {s2:DuS} (h0:∀i,i<n->a i 0=D i) (h2:a2 0=a i 0) (h:DZ w' n (upd a i a2) (upd s i s2) tk M jX K E w0):GG w' n D (upd s i s2) tk M jX K E w0 :=
 ⟨_,λj hj=>by
  by_cases e:j=i
  . subst e;rw [upd_same,h2];exact h0 j hj
  . rw [ay _ _ e];exact h0 j hj,h⟩
theorem DZ.more {a2:Nat->Nat} {s2:DuS} (h:DZ w n a s tk M mt K E w0) (hv:fM w' a2 s2 tk E w0) (hX:∀b,oU a2 s2 b->w.heap.size<=b) (hb:Below w.heap.size w w'):DZ w' (n+1) (upd a n a2) (upd s n s2) tk M mt K E w0:=by
 have h':=h.later hb;refine ⟨λj hj=>?_,h'.m,h.ml,h.mz,λj hj b hx=>?_,λj j2 hj hj2 hne b hx=>?_,h'.kz,h'.hb⟩
 . by_cases e:j=n
   . subst e;rw [upd_same,upd_same];exact hv
   . rw [ay _ _ e,ay _ _ e];exact h'.v j (by omega)
 . by_cases e:j=n
   . subst e;rw [upd_same,upd_same] at hx;have:=hX b hx;exact ⟨λe2=>by have:=h.m.lt;omega,λhK=>by have:=h.kz b hK;omega⟩
   . rw [ay _ _ e,ay _ _ e] at hx;exact h.am j (by omega) b hx
 . by_cases e:j=n
   . subst e;have e2:j2≠j:=λe=>hne e.symm;rw [upd_same,upd_same] at hx;rw [ay _ _ e2,ay _ _ e2];have:=hX b hx;intro e3;have:=((h.v j2 (by omega)).xlt e3).1;omega
   . rw [ay _ _ e,ay _ _ e] at hx;by_cases e2:j2=n
     . subst e2;rw [upd_same,upd_same];intro e3;have:=hX b e3;have:=((h.v j (by omega)).xlt hx).1;omega
     . rw [ay _ _ e2,ay _ _ e2];exact h.ap j j2 (by omega) (by omega) hne b hx
theorem GG.more {a2:Nat->Nat} {s2:DuS} (h:GG w n D s tk M mt K E w0) (hv:fM w' a2 s2 tk E w0) (hX:∀b,oU a2 s2 b->w.heap.size<=b) (hb:Below w.heap.size w w'):GG w' (n+1) (upd D n (a2 0)) (upd s n s2) tk M mt K E w0:=by
 obtain ⟨a,h0,h1⟩:=h;refine ⟨_,λj hj=>?_,h1.more hv hX hb⟩;by_cases e:j=n
 . subst e;rw [upd_same,upd_same]
 . rw [ay _ _ e,ay _ _ e];exact h0 j (by omega)
theorem pF (s:DuS) (key v:Int) (h:Nat) (more:Bool):(s.put key v h more).k=s.k/\(s.put key v h more).bare=s.bare:=by
 unfold DuS.put;split
 . exact ⟨rfl,rfl⟩
 . split
   . exact ⟨rfl,rfl⟩
   . split
     . exact ⟨rfl,rfl⟩
     . split <;> exact ⟨rfl,rfl⟩
theorem Fz (s:DuS) (key:Int) (h:Nat):(s.del key h).k=s.k/\(s.del key h).bare=s.bare:=by
 unfold DuS.del;split <;> exact ⟨rfl,rfl⟩
theorem oN {a:Nat->Nat} {s s2:DuS} (hk:s2.k=s.k/\s2.bare=s.bare) (b:Nat):oU a s2 b↔oU a s b:=by
 unfold oU;rw [hk.1,hk.2]
theorem adw {s:DuS} (h:dW s) (a:Nat->Nat) (key:Int) (hh:Nat) {b:Nat} (hb:some M=some b\/b=s.jE a key hh\/b=s.gD a key hh):b=M\/oU a s b:=by
 obtain ⟨⟨x,hx,e1⟩,⟨y,hy,e2⟩⟩:=iL h a key hh;rcases hb with e|e|e
 . cases e;exact .inl rfl
 . exact .inr ⟨x,hx,e.trans e1⟩
 . exact .inr ⟨y,hy,e.trans e2⟩
theorem GG.put {i:Nat} (h:GG w n D s tk M mt K E w0) (hi:i<n) (key v:Int) (hh:Nat) (hb:hh<18446744073709551616) (more:Bool) (x y z:Int) :
 Calls Tryz.prog 42 #[.pointer (some ⟨D i,0,none⟩),.agg #[.pointer (some ⟨M,0,none⟩),.int .i64 x,.int .i64 y,.int .i64 z],.agg #[.int .u64 key,.int .u64 v,.int .u64 (hh:Int)],.bool more] w λe w' =>
  e = .returned (.tuple #[.bool ((s i).bB key hh more),jF E ((s i).bN key hh more)])/\GG w' n D (upd s i ((s i).put key v hh more)) tk M (addN mt x y z ((s i).jY key hh+(s i).jZ key hh)) K E w0/\ah (KC K w0.heap.size) w w':=by
 obtain ⟨a,h0,h1⟩:=h;have hv:=h1.v i hi;rw [<-h0 i hi];refine (hv.put (mt:=mt) (lp:=some M) (λb e=>by cases e;exact h1.m) (h1.lens hi) key v hh hb more (some ⟨M,0,none⟩) (.inr ⟨M,rfl,rfl⟩) x y z).mono ?_;rintro e w' ⟨rfl,g1,g2,g3⟩
 obtain ⟨t1,t2⟩:=h1.turn hi g1 (g2 M rfl) ((eZ _ _ _ _ _).trans h1.ml) (λb e => .inl ((oN (pF _ _ _ _ _) b).1 e)) (g3.mono (λb _ e=>adw hv.ok _ _ _ e));exact ⟨rfl,.JA h0 rfl t1,t2⟩
theorem GG.step {i:Nat} (h:GG w n D s tk M mt K E w0) (hi:i<n) (hev:(s i).sH) :
 Calls Tryz.prog 54 #[.pointer (some ⟨D i,0,none⟩),.pointer (some ⟨M,0,none⟩)] w λe w' =>
  e = .returned (.bool (decide (0<(s i).left)))/\GG w' n D (upd s i (s i).bX) tk M ((s i).adt mt) K E w0/\ah (KC K w0.heap.size) w w':=by
 obtain ⟨a,h0,h1⟩:=h;have hv:=h1.v i hi;have hls:=h1.lens hi;unfold j4 at hls;rw [<-h0 i hi];unfold DuS.left DuS.bX DuS.adt;rcases hv.m with ⟨aT,hA⟩ | ⟨aT,dz,cap5,hB⟩
 . have hb0:¬ (s i).bare=0:=by have:=hA.hb;omega
   rw [decide_eq_false hb0] at hls;rw [if_neg hb0,if_neg hb0,decide_eq_true (show 0<(s i).bare+((s i).T.n-(s i).nx) by have:=hA.hb;omega)];refine (hA.step hv.ok h1.m hls h1.ml).mono ?_;rintro e w' ⟨rfl,⟨a',g1,g2,g3⟩,g4,g5⟩
   obtain ⟨t1,t2⟩:=h1.turn hi g1 g4 h1.ml (λb e=>by
    obtain ⟨x,hx,rfl⟩:=e;by_cases hx2:Used (s i).k false x
    . rw [g2 x hx2];exact .inl ⟨x,by rw [decide_eq_false hb0];exact hx2,rfl⟩
    . have hx3:Used (s i).k (decide ((s i).bare-1=0)) x:=hx;unfold Used at hx2 hx3;simp only [Bool.false_eq_true,false_and,false_or] at hx2;rcases hx3 with e | ⟨e1,e2⟩|e
      . exact absurd (.inl e) hx2
      . rcases g3 x (by omega) e2 with e3|e3
        . exact .inr e3
        . rw [decide_eq_true_eq] at e1;omega
      . exact absurd (.inr e) hx2) g5
   exact ⟨rfl,.JA h0 (g2 0 (.fH (by decide))) t1,t2⟩
 . have hb0:=hB.hb;have hxn:=hv.ok.hx;rw [decide_eq_true hb0] at hls;rw [if_pos hb0,if_pos hb0];by_cases hn:(s i).nx<(s i).T.n
   . rw [if_pos hn,if_pos hn,decide_eq_true (show 0<(s i).bare+((s i).T.n-(s i).nx) by omega)];refine (hB.rU hv.ok h1.m hls h1.ml hn (hev hb0 hn)).mono ?_;rintro e w' ⟨rfl,g1,g2,g3⟩
     obtain ⟨t1,t2⟩:=h1.turn hi g1 g2 ((eZ _ _ _ _ _).trans h1.ml) (λb e => .inl ((oN ⟨rfl,rfl⟩ b).1 e)) g3;exact ⟨rfl,.JA h0 rfl t1,t2⟩
   . rw [if_neg hn,if_neg hn,decide_eq_false (show ¬0<(s i).bare+((s i).T.n-(s i).nx) by omega)];refine (hB.Ji hv.ok h1.m hls (by omega)).mono ?_;rintro e w' ⟨rfl,g1⟩
     rw [Aw];exact ⟨rfl,⟨a,h0,h1.later g1⟩,ah.of_below g1⟩
theorem GG.left {i:Nat} (h:GG w n D s tk M mt K E w0) (hi:i<n):Calls Tryz.prog 55 #[.pointer (some ⟨D i,0,none⟩)] w λe w'=>e = .returned (.int .i64 (((s i).left:Nat):Int))/\Below w.heap.size w w':=by
 obtain ⟨a,h0,h1⟩:=h;rw [<-h0 i hi];exact (h1.v i hi).left
theorem DZ.congr {s':Nat->DuS} (h:DZ w n a s tk M mt K E w0) (e:∀i,i<n->s i=s' i):DZ w n a s' tk M mt K E w0 :=
 ⟨λi hi=>by rw [<-e i hi];exact h.v i hi,h.m,h.ml,h.mz,λi hi=>by rw [<-e i hi];exact h.am i hi,λi j hi hj=>by rw [<-e i hi,<-e j hj];exact h.ap i j hi hj,h.kz,h.hb⟩
end
def Qt (w:World) (D:Nat) (s:DuS) (tk:Bool) (M:Nat) (mt:aG) (K:Nat->Prop) (E:Nat->Addr) (w0:World):Prop:=GG w 1 (λ_=>D) (λ_=>s) tk M mt K E w0
section
variable {w w' w0:World} {D:Nat} {s:DuS} {tk:Bool} {M:Nat} {mt jX:aG} {K:Nat->Prop} {E:Nat->Addr}
theorem Qt.UH {s':DuS} (h:GG w' 1 (λ_=>D) (upd (λ_=>s) 0 s') tk M jX K E w0):Qt w' D s' tk M jX K E w0:=by
 obtain ⟨a,h0,h1⟩:=h;refine ⟨a,h0,h1.congr (λi hi=>?_)⟩;obtain rfl:i=0:=by omega
 exact upd_same _ _ _
theorem Qt.later (h:Qt w D s tk M mt K E w0) (hb:Below w.heap.size w w'):Qt w' D s tk M mt K E w0:=GG.later h hb
theorem Qt.put (h:Qt w D s tk M mt K E w0) (key v:Int) (hh:Nat) (hb:hh<18446744073709551616) (more:Bool) (x y z:Int) :
 Calls Tryz.prog 42 #[.pointer (some ⟨D,0,none⟩),.agg #[.pointer (some ⟨M,0,none⟩),.int .i64 x,.int .i64 y,.int .i64 z],.agg #[.int .u64 key,.int .u64 v,.int .u64 (hh:Int)],.bool more] w λe w' =>
  e = .returned (.tuple #[.bool (s.bB key hh more),jF E (s.bN key hh more)])/\Qt w' D (s.put key v hh more) tk M (addN mt x y z (s.jY key hh+s.jZ key hh)) K E w0/\ah (KC K w0.heap.size) w w':=by
 refine (GG.put h (by decide:0<1) key v hh hb more x y z).mono ?_;rintro e w' ⟨rfl,h1,h2⟩
 exact ⟨rfl,.UH h1,h2⟩
theorem Qt.step (h:Qt w D s tk M mt K E w0) (hev:s.sH) :
 Calls Tryz.prog 54 #[.pointer (some ⟨D,0,none⟩),.pointer (some ⟨M,0,none⟩)] w λe w' =>
  e = .returned (.bool (decide (0<s.left)))/\Qt w' D s.bX tk M (s.adt mt) K E w0/\ah (KC K w0.heap.size) w w':=by
 refine (GG.step h (by decide:0<1) hev).mono ?_;rintro e w' ⟨rfl,h1,h2⟩
 exact ⟨rfl,.UH h1,h2⟩
theorem Qt.left (h:Qt w D s tk M mt K E w0):Calls Tryz.prog 55 #[.pointer (some ⟨D,0,none⟩)] w λe w'=>e = .returned (.int .i64 ((s.left:Nat):Int))/\Below w.heap.size w w':=GG.left h (by decide:0<1)
theorem Qt.v (h:Qt w D s tk M mt K E w0):∃a,a 0=D/\fM w a s tk E w0:=by
 obtain ⟨a,h0,h1⟩:=h;exact ⟨a 0,h0 0 (by decide),h1.v 0 (by decide)⟩
end
section
variable {s:DuS} {H:Int->Nat}
def DuS.ok (s:DuS) (q:Int) (h:Nat):Bool:=s.has q h || decide (1<=(s.fst h).left)
theorem sO.nz (h:sO s H) (q v:Int) (hh:H q<18446744073709551616) (q':Int) :
 (s.put q v (H q) true).has q' (H q')=(if q'=q then s.ok q (H q) else s.has q' (H q'))/\
  (s.put q v (H q) true).bA q' (H q')=if q'=q then (if s.ok q (H q)=true then ⟨q,v,H q⟩ else ai.zero) else s.bA q' (H q'):=by
 have h':=h.put q v hh true;rw [h'.has_eq,h'.pY,h.has_eq,h.pY];have hu:=h.u.at h.ok.hk q v hh _ (h.ok.yk (H q')) q';have ht:=h.t.nz q v hh q';have hap:=h.apart q;unfold DuS.ok;rw [h.has_eq];unfold DuS.put DuS.fst;rw [h.JF];rw [show fO s.k s.d (H q)=s.y (H q) from rfl] at hu;cases c1:(s.U (s.y (H q))).has q (H q) with
 | true =>
  rw [if_pos rfl];show ((upd s.U (s.y (H q)) ((s.U (s.y (H q))).aR q v (H q)) (s.y (H q'))).has q' (H q') || s.T.has q' (H q'))=_/\(if (upd s.U (s.y (H q)) ((s.U (s.y (H q))).aR q v (H q)) (s.y (H q'))).has q' (H q')=true then (upd s.U (s.y (H q)) ((s.U (s.y (H q))).aR q v (H q)) (s.y (H q'))).bA q' (H q') else s.T.bA q' (H q'))=_
  rw [hu.1,hu.2];unfold ae.ok;rw [c1];by_cases e:q'=q
  . subst e;simp
  . simp [e]
 | false =>
  rw [if_neg Bool.false_ne_true];cases c2:s.T.has q (H q) with
  | true =>
   rw [if_pos rfl];show ((s.U (s.y (H q'))).has q' (H q') || (s.T.aR q v (H q)).has q' (H q'))=_/\(if (s.U (s.y (H q'))).has q' (H q')=true then (s.U (s.y (H q'))).bA q' (H q') else (s.T.aR q v (H q)).bA q' (H q'))=_
   rw [ht.1,ht.2];unfold ae.ok;rw [c2];by_cases e:q'=q
   . subst e;simp [c1]
   . simp [e]
  | false =>
   rw [if_neg Bool.false_ne_true,if_neg (by decide)];by_cases hb:s.bare=0
   . rw [if_pos hb,if_pos hb];show ((upd s.U (s.y (H q)) ((s.U (s.y (H q))).aR q v (H q)) (s.y (H q'))).has q' (H q') || s.T.has q' (H q'))=_/\(if (upd s.U (s.y (H q)) ((s.U (s.y (H q))).aR q v (H q)) (s.y (H q'))).has q' (H q')=true then (upd s.U (s.y (H q)) ((s.U (s.y (H q))).aR q v (H q)) (s.y (H q'))).bA q' (H q') else s.T.bA q' (H q'))=_
     rw [hu.1,hu.2];unfold ae.ok;rw [c1];by_cases e:q'=q
     . subst e;by_cases e2:1<=(s.U (s.y (H q'))).left
       . simp [e2]
       . simp [e2,c2,bU.eu c2]
     . simp [e]
   . rw [if_neg hb,if_neg hb];show ((s.U (s.y (H q'))).has q' (H q') || (s.T.aR q v (H q)).has q' (H q'))=_/\(if (s.U (s.y (H q'))).has q' (H q')=true then (s.U (s.y (H q'))).bA q' (H q') else (s.T.aR q v (H q)).bA q' (H q'))=_
     rw [ht.1,ht.2];unfold ae.ok;rw [c2];by_cases e:q'=q
     . subst e;simp [c1]
     . simp [e]
theorem sO.abh (h:sO s H) (q:Int):s.bB q (H q) true=(!s.has q (H q) && s.ok q (H q))/\s.bN q (H q) true=if s.ok q (H q)=true then 0 else 2:=by
 have hf:(s.fst (H q)).bB q (H q)=(!(s.fst (H q)).has q (H q) && decide (1<=(s.fst (H q)).left))/\(s.fst (H q)).bN q (H q)=if (s.fst (H q)).ok q (H q)=true then 0 else 2:=by
  unfold DuS.fst;split
  . exact ⟨(h.u.f _ (h.ok.yk (H q))).bB q,(h.u.f _ (h.ok.yk (H q))).bN q⟩
  . exact ⟨h.t.bB q,h.t.bN q⟩
 unfold DuS.bB DuS.bN DuS.ok;rw [hf.1,hf.2];cases c:s.has q (H q) with
 | true=>simp
 | false =>
  have:(s.fst (H q)).has q (H q)=false:=by
   rw [<-Jo c,mK];exact c
  unfold ae.ok;rw [this];simp
theorem Mc {U:Nat->ae} {k d gn:Nat} (h:UF U k d H) (hk:k=1\/(k=2/\d<=15)) (l:List ai) (hH:∀e∈l,e.hash=(H e.key:Int)/\H e.key<18446744073709551616)
 (hnew:∀e∈l,(U (fO k d (H e.key))).has e.key (H e.key)=false) (hdup:∀i j (hi:i<l.length) (hj:j<l.length),l[i].key=l[j].key->i=j)
 (hn:∀i,i<k->bq (U i)/\(U i).n=gn) (hroom:dX U k+l.length<=7*(gn:Int)) :
 ∀j,j<=l.length->nH k d (l.take j) U/\dX (jN k d (l.take j) (U,0)).1 k<=dX U k+j/\dS (jN k d (l.take j) (U,0)).1 k=dS U k+j
 | 0,_=>⟨λj hj=>by simp at hj,by rw [List.take_zero];simp [jN],by rw [List.take_zero];simp [jN]⟩
 | j+1,hj=>by
  obtain ⟨h1,h2,h3⟩:=Mc h hk l hH hnew hdup hn hroom j (by omega);have hjl:j<l.length:=by omega
  have hk':k=1\/k=2:=by omega
  have hlen:(l.take j).length=j:=by rw [List.length_take];omega
  obtain ⟨f1,f2,-,-⟩:=QT h hk (l.take j) (λe he=>hH e (List.mem_of_mem_take he)) h1 j (by rw [hlen];exact aL _);rw [show (l.take j).take j=l.take j by rw [List.take_take,Nat.min_self]] at f1 f2;have hg:=Fp hk (l.take j) U 0 (λe he=>by rw [(hH e (List.mem_of_mem_take he)).1,Int.toNat_natCast];exact (hH e (List.mem_of_mem_take he)).2) hn;have htk:=mq (k:=k) (d:=d) hjl (U,0);obtain ⟨GU,LH⟩:=hH l[j] (List.getElem_mem hjl);have hcv:l[j].hash.toNat=H l[j].key:=by rw [GU];simp
  have hi:=gm (h:=H l[j].key) hk
  have hno:((jN k d (l.take j) (U,0)).1 (fO k d (H l[j].key))).has l[j].key (H l[j].key)=false:=by
   rw [<-Bool.not_eq_true,f2 _ hi];rintro (e | ⟨p,hp,LA,hkey,-⟩)
   . rw [hnew _ (List.getElem_mem hjl)] at e;cases e
   . rw [List.getElem_take] at hkey;have:=hdup p j (by omega) hjl hkey;omega
  have hle:=Lf (U:=(jN k d (l.take j) (U,0)).1) hk' hi (λi hi=>by have:=(hg i hi).1.bounds;omega)
  have hl1:1<=((jN k d (l.take j) (U,0)).1 (fO k d (H l[j].key))).left:=by
   have hgn:=(hg _ hi).2;unfold ae.left;rw [hgn];omega
  have Vd:((jN k d (l.take j) (U,0)).1 (fO k d (H l[j].key))).bB l[j].key (H l[j].key)=true:=by rw [(f1.f _ hi).bB,hno];simpa using hl1
  refine ⟨λi hi'=>?_,?_,?_⟩
  . rw [List.length_take] at hi';have e1:(l.take (j+1))[i]'(by rw [List.length_take];exact hi')=l[i]'(by omega):=List.getElem_take ..;have e2:(l.take (j+1)).take i=l.take i:=by rw [List.take_take,Nat.min_eq_left (by omega)]
    rw [e1,e2];by_cases e:i=j
    . subst e;rw [hcv];exact Vd
    . have:=h1 i (by rw [hlen];omega);rw [List.getElem_take,show (l.take j).take i=l.take i by rw [List.take_take,Nat.min_eq_left (by omega)]] at this;exact this
  . rw [htk];unfold TT;rw [hcv];have:=Jt (T:=(jN k d (l.take j) (U,0)).1 (fO k d (H l[j].key))) l[j].key l[j].val (H l[j].key);rw [Vd,if_pos rfl] at this;rw [Ca hk' hi];omega
  . rw [htk];unfold TT;rw [hcv];have:=((f1.f _ hi).j6 l[j].key l[j].val).1;rw [Vd,if_pos rfl] at this;rw [kr hk' hi,this];omega
structure rJ (s:DuS) (H:Int->Nat) (m c:Int) (P:Int->Bool) (V:Int->ai):Prop where
 f:sO s H
 p:∀q,s.has q (H q)=P q
 e:∀q,s.bA q (H q)=V q
 c:s.T.lv+dS s.U s.k=c
 l1:s.T.lv+dX s.U s.k<=m
 l2:0<s.bare->s.T.lv+s.T.tb<=m
 z:∀q g' k',s.T.At q g' k'->s.nx<=g'
def Ny (P:Int->Bool) (q:Int) (b:Bool):Int->Bool:=λq'=>if q'=q then b else P q'
def abg (V:Int->ai) (q:Int) (e:ai):Int->ai:=λq'=>if q'=q then e else V q'
variable {m c:Int} {P:Int->Bool} {V:Int->ai}
theorem rJ.more {m':Int} (h:rJ s H m c P V) (hm:m<=m'):rJ s H m' c P V:=⟨h.f,h.p,h.e,h.c,Int.le_trans h.l1 hm,λhb=>Int.le_trans (h.l2 hb) hm,h.z⟩
theorem rJ.k12 (h:rJ s H m c P V):s.k=1\/s.k=2:=by have:=h.f.ok.hk;omega
theorem rJ.u0 (h:rJ s H m c P V):∀i,i<s.k->0<=(s.U i).lv+(s.U i).tb:=λi hi=>by have:=(h.f.ok.u i hi).1.bounds;omega
theorem rJ.okm (h:rJ s H m c P V) (hm:m<7*(s.gn:Int)) (hm2:0<s.bare->m<7*(s.T.n:Int)) (q:Int):s.ok q (H q)=true:=by
 have hy:=h.f.ok.yk (H q);have hb:=h.f.t.good.bounds;have hle:=Lf h.k12 hy h.u0;have h1:=h.l1
 have:1<=(s.fst (H q)).left:=by
  unfold DuS.fst ae.left;split
  . rw [(h.f.ok.u _ hy).2];omega
  . rename_i c
    have:=h.l2 (by omega);have:=hm2 (by omega);omega
 unfold DuS.ok;rw [decide_eq_true this,Bool.or_true]
theorem Mw {T:ae} {q v:Int} {h:Nat} (hh:T.has q h=true) {i:Int} {g k:Nat} (ha:(T.aR q v h).At i g k):T.At i g k:=by
 unfold ae.aR at ha;rw [if_pos hh] at ha;exact (lD _ _ _ _ _ _ _).1 ha
theorem rJ.put (h:rJ s H m c P V) (q v:Int) (hh:H q<18446744073709551616) :
 rJ (s.put q v (H q) true) H (m+1) (c+if (!P q && s.ok q (H q))=true then 1 else 0) (Ny P q (s.ok q (H q))) (abg V q (if s.ok q (H q)=true then ⟨q,v,H q⟩ else ai.zero)):=by
 have hy:=h.f.ok.yk (H q);have hat:=λq'=>h.f.nz q v hh q';have hp:=h.p q;have hl1:=h.l1;have hc:=h.c
 have hput:(!P q && s.ok q (H q))=(!s.has q (H q) && decide (1<=(s.fst (H q)).left)):=by
  unfold DuS.ok;cases e:P q <;> rw [e] at hp <;> simp [hp]
 refine ⟨h.f.put q v hh true,λq'=>by rw [(hat q').1];unfold Ny;rw [h.p],λq'=>by rw [(hat q').2];unfold abg;rw [h.e],?_,?_,?_,?_⟩
 . rw [hput,h.f.has_eq];unfold DuS.put DuS.fst;rw [h.f.JF];cases c1:(s.U (s.y (H q))).has q (H q) with
   | true =>
    rw [if_pos rfl];show s.T.lv+dS (upd s.U (s.y (H q)) _) s.k=_
    rw [kr h.k12 hy,((h.f.u.f _ hy).j6 q v).1,(h.f.u.f _ hy).bB,c1];simp;omega
   | false =>
    rw [if_neg Bool.false_ne_true];cases c2:s.T.has q (H q) with
    | true =>
     rw [if_pos rfl];show (s.T.aR q v (H q)).lv+dS s.U s.k=_
     rw [(h.f.t.j6 q v).1,h.f.t.bB,c2];simp;omega
    | false =>
     rw [if_neg Bool.false_ne_true,if_neg (by decide)];by_cases hb:s.bare=0
     . rw [if_pos hb,if_pos hb];show s.T.lv+dS (upd s.U (s.y (H q)) _) s.k=_
       rw [kr h.k12 hy,((h.f.u.f _ hy).j6 q v).1,(h.f.u.f _ hy).bB,c1];simp only [Bool.not_false,Bool.true_and,Bool.or_self];omega
     . rw [if_neg hb,if_neg hb];show (s.T.aR q v (H q)).lv+dS s.U s.k=_
       rw [(h.f.t.j6 q v).1,h.f.t.bB,c2];simp only [Bool.not_false,Bool.true_and,Bool.or_self];omega
 . have u1:dX (upd s.U (s.y (H q)) ((s.U (s.y (H q))).aR q v (H q))) s.k<=dX s.U s.k+1:=by
    rw [Ca h.k12 hy];have:=Jt (T:=s.U (s.y (H q))) q v (H q);split at this <;> omega
   have t1:(s.T.aR q v (H q)).lv<=s.T.lv+1:=by
    rw [(h.f.t.j6 q v).1];split <;> omega
   unfold DuS.put;split
   . show s.T.lv+dX (upd s.U (s.y (H q)) _) s.k<=_;omega
   . split
     . show (s.T.aR q v (H q)).lv+dX s.U s.k<=_;omega
     . split
       . show s.T.lv+dX s.U s.k<=_;omega
       . split
         . show s.T.lv+dX (upd s.U (s.y (H q)) _) s.k<=_;omega
         . show (s.T.aR q v (H q)).lv+dX s.U s.k<=_;omega
 . have t1:(s.T.aR q v (H q)).lv+(s.T.aR q v (H q)).tb<=s.T.lv+s.T.tb+1:=by
    have:=Jt (T:=s.T) q v (H q);split at this <;> omega
   have hl2:=h.l2;unfold DuS.put;split
   . intro hb;have:=hl2 hb;show s.T.lv+s.T.tb<=_;omega
   . split
     . intro hb;have:=hl2 hb;show (s.T.aR q v (H q)).lv+(s.T.aR q v (H q)).tb<=_;omega
     . split
       . intro hb;have:=hl2 hb;show s.T.lv+s.T.tb<=_;omega
       . split
         . intro hb;have:=hl2 hb;show s.T.lv+s.T.tb<=_;omega
         . intro hb;have:=hl2 hb;show (s.T.aR q v (H q)).lv+(s.T.aR q v (H q)).tb<=_;omega
 . unfold DuS.put;split
   . exact h.z
   . split
     . rename_i c2
       intro q' g' k' ha;exact h.z q' g' k' (Mw c2 ha)
     . split
       . exact h.z
       . split
         . exact h.z
         . rename_i hb
           intro q' g' k' _;have:=(h.f.ok.pre (by omega)).1;show s.nx<=g'
           omega
theorem rJ.je (h:rJ s H m c P V):rJ s.je H m c P V:=by
 have hp:∀q,s.je.has q (H q)=s.has q (H q)/\s.je.bA q (H q)=s.bA q (H q):=λq=>by
  rw [h.f.je.has_eq,h.f.je.pY,h.f.has_eq,h.f.pY];exact ⟨rfl,rfl⟩
 exact ⟨h.f.je,λq=>by rw [(hp q).1,h.p],λq=>by rw [(hp q).2,h.e],h.c,h.l1,λhb=>h.l2 (by have:0<s.bare-1:=hb;omega),h.z⟩
theorem rJ.move (h:rJ s H m c P V) (sw:∀q,H q<18446744073709551616) (hm:m<=7*(s.gn:Int)) (h0:s.bare=0) (hn:s.nx<s.T.n) :
 nH s.k s.d (aS (s.T.M s.nx) (s.T.S s.nx)) s.U/\rJ s.move H m c P V:=by
 obtain ⟨g1,g2,g3⟩:=mg h.f.t sw hn;have hT':=h.f.t.dw hn;have hlv:=AB s.T s.nx;have agm:=hT'.good.bounds.2.2.1;have hl1:=h.l1
 have hnew:∀e∈aS (s.T.M s.nx) (s.T.S s.nx),(s.U (fO s.k s.d (H e.key))).has e.key (H e.key)=false:=λe he=>by
  obtain ⟨k',ha⟩:=(g3 e.key).1 ⟨e,he,rfl⟩;exact h.f.apart _ (h.f.t.iZ ha)
 obtain ⟨r1,r2,r3⟩:=Mc h.f.u h.f.ok.hk _ g1 hnew g2 h.f.ok.u (by omega) _ (aL _);rw [List.take_length] at r1 r2 r3;obtain ⟨m1,m2⟩:=h.f.move sw h0 hn r1;refine ⟨r1,m1,λq=>by rw [(m2 q).1,h.p],λq=>by rw [(m2 q).2,h.e],?_,?_,λhb=>?_,λq g' k' ha=>?_⟩
 . show (s.T.dw s.nx).lv+dS (jN s.k s.d (aS (s.T.M s.nx) (s.T.S s.nx)) (s.U,0)).1 s.k=c
   have:=h.c;rw [r3,hlv];omega
 . show (s.T.dw s.nx).lv+dX (jN s.k s.d (aS (s.T.M s.nx) (s.T.S s.nx)) (s.U,0)).1 s.k<=m
   rw [hlv];omega
 . have:0<s.bare:=hb;omega
 . obtain ⟨a1,a2⟩:=(jP hn q g' k').1 ha;have:=h.z q g' k' a2;show s.nx+1<=g'
   omega
theorem rJ.new {k d gn:Nat} {T:ae} (hk:k=1\/(k=2/\d<=15)) (hr:aN (gn:Int)=true) (hT:bU T H) (hm:T.lv+T.tb<=m) :
 rJ ⟨k,d,gn,k*gn,0,T,λ_=>ae.new gn⟩ H m T.lv (λq=>T.has q (H q)) (λq=>T.bA q (H q)):=by
 have hk':k=1\/k=2:=by omega
 have hgn:1<=gn:=by rw [dG] at hr;omega
 have hb:¬k*gn=0:=by rcases hk' with rfl|rfl <;> omega
 have hG:∀i,i<k->bq (ae.new gn)/\(ae.new gn).n=gn:=λi _=>⟨bq.new hr,rfl⟩
 have hbd:=hT.good.bounds;have z1:dS (λ_=>ae.new gn) k=0:=by rcases hk' with rfl|rfl;rw [lG];rfl;rw [lF];rfl
 have z2:dX (λ_=>ae.new gn) k=0:=by rcases hk' with rfl|rfl;rw [qJ];rfl;rw [qI];rfl
 refine ⟨⟨⟨hk,hr,aL _,o7 _,hT.good,hG,λ_=>⟨rfl,λ_ _=>rfl⟩⟩,hT,⟨λ_ _=>bU.new hr H,λi _ q hq=>by rw [NJ hr] at hq;cases hq⟩,λq _=>NJ hr H q⟩,λq=>?_,λq=>?_,?_,?_,λ_=>hm,λq g' k' _=>o7 _⟩
 . unfold DuS.has DuS.mF;dsimp only;rw [decide_eq_false hb,Bool.false_and,Bool.false_or]
 . unfold DuS.bA DuS.mF;dsimp only;rw [decide_eq_false hb,Bool.false_and,if_neg Bool.false_ne_true]
 . show T.lv+dS (λ_=>ae.new gn) k=T.lv
   rw [z1];omega
 . show T.lv+dX (λ_=>ae.new gn) k<=m
   rw [z2];omega
end
section
variable {g gn:Nat} {H:Int->Nat} {kx:Nat->Int} {v:Int}
structure TH (s:DuS) (H:Int->Nat) (g gn:Nat) (m c:Int) (P:Int->Bool) (V:Int->ai):Prop where
 l:rJ s H m c P V
 n:s.gn=gn/\s.T.n=g
variable {s:DuS} {m c:Int} {P:Int->Bool} {V:Int->ai}
theorem Uv (s:DuS) (q v:Int) (h:Nat) (more:Bool):(s.put q v h more).gn=s.gn/\(s.put q v h more).T.n=s.T.n/\(s.put q v h more).nx=s.nx:=by
 unfold DuS.put;split
 . exact ⟨rfl,rfl,rfl⟩
 . split
   . exact ⟨rfl,kF _ _ _ _,rfl⟩
   . split
     . exact ⟨rfl,rfl,rfl⟩
     . split
       . exact ⟨rfl,rfl,rfl⟩
       . exact ⟨rfl,kF _ _ _ _,rfl⟩
theorem TH.more {m':Int} (h:TH s H g gn m c P V) (hm:m<=m'):TH s H g gn m' c P V:=⟨h.l.more hm,h.n⟩
theorem TH.okm (h:TH s H g gn m c P V) (hm:m<7*(gn:Int)) (hm2:m<7*(g:Int)) (q:Int):s.ok q (H q)=true:=h.l.okm (by rw [h.n.1];exact hm) (λ_=>by rw [h.n.2];exact hm2) q
theorem TH.put (h:TH s H g gn m c P V) (hm:m<7*(gn:Int)) (hm2:m<7*(g:Int)) (q v:Int) (hh:H q<18446744073709551616):TH (s.put q v (H q) true) H g gn (m+1) (c+if P q=true then 0 else 1) (Ny P q true) (abg V q ⟨q,v,H q⟩):=by
 have h1:=h.l.put q v hh;rw [h.okm hm hm2 q,if_pos rfl,Bool.and_true] at h1;rw [show (if (!P q)=true then (1:Int) else 0)=if P q=true then 0 else 1 by cases P q <;> rfl] at h1;obtain ⟨e1,e2,-⟩:=Uv s q v (H q) true;exact ⟨h1,by rw [e1,e2];exact h.n⟩
theorem TH.bX (h:TH s H g gn m c P V) (sw:∀q,H q<18446744073709551616) (hm:m<=7*(gn:Int)):s.sH/\TH s.bX H g gn m c P V/\s.bX.left=s.left-1:=by
 have hm':m<=7*(s.gn:Int):=by rw [h.n.1];exact hm
 refine ⟨λh0 hn=>(h.l.move sw hm' h0 hn).1,?_⟩;unfold DuS.bX;by_cases h0:s.bare=0
 . rw [if_pos h0];by_cases hn:s.nx<s.T.n
   . rw [if_pos hn];refine ⟨⟨(h.l.move sw hm' h0 hn).2,h.n.1,(Az _ _).trans h.n.2⟩,?_⟩;unfold DuS.left;show s.bare+((s.T.dw s.nx).n-(s.nx+1))=_
     rw [Az];omega
   . rw [if_neg hn];refine ⟨h,?_⟩;unfold DuS.left;omega
 . rw [if_neg h0];refine ⟨⟨h.l.je,h.n⟩,?_⟩;unfold DuS.left;show s.bare-1+(s.T.n-s.nx)=_
   omega
end
end Go.Proofs.YtolhmibejhldkaaGreatDoor
