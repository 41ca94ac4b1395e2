/- Joined texts; conditions within. -/
import Derived.Test.YtolhmibejhldkaaGreatDoorPkTab3
set_option linter.unusedVariables false
set_option linter.unusedSimpArgs false
set_option maxRecDepth 100000
set_option maxHeartbeats 4000000
namespace Go.Proofs.YtolhmibejhldkaaGreatDoor
open Go.RowKit Go.Proofs
def ae.dE (T:ae) (g:Nat):Nat->ae
 | 0=>T
 | k+1=>if bC (T.M g) k=true then (T.dE g k).era g k else T.dE g k
def ae.dw (T:ae) (g:Nat):ae:=T.dE g 8
theorem nA (T:ae) (g:Nat):∀k,(T.dE g k).n=T.n
 | 0=>rfl
 | k+1=>by unfold ae.dE;split;exact nA T g k;exact nA T g k
theorem oK (T:ae) (g:Nat):∀k i,i<8->bC ((T.dE g k).M g) i=if i<k then false else bC (T.M g) i
 | 0,i,_=>by rw [if_neg (by omega)];rfl
 | k+1,i,hi=>by
  have ih:=oK T g k i hi;unfold ae.dE;split
  . rename_i c
    rw [show ((T.dE g k).era g k).M g=fB ((T.dE g k).M g) k (dB ((T.dE g k).M g)) from upd_same _ _ _,lJ _ _ _ hi,ih];by_cases e:i=k
    . subst e;rw [if_pos rfl,if_pos (by omega)]
    . rw [if_neg e];by_cases e2:i<k
      . rw [if_pos e2,if_pos (by omega)]
      . rw [if_neg e2,if_neg (by omega)]
  . rename_i c
    rw [ih];by_cases e:i=k
    . subst e;rw [if_neg (by omega),if_pos (by omega)];simpa using c
    . by_cases e2:i<k
      . rw [if_pos e2,if_pos (by omega)]
      . rw [if_neg e2,if_neg (by omega)]
theorem kv (T:ae) {g g':Nat} (h:g'≠g):∀k,(T.dE g k).M g'=T.M g'/\(T.dE g k).S g'=T.S g'
 | 0=>⟨rfl,rfl⟩
 | k+1=>by
  obtain ⟨h1,h2⟩:=kv T h k;unfold ae.dE;split
  . exact ⟨(ay _ _ h).trans h1,(ay _ _ h).trans h2⟩
  . exact ⟨h1,h2⟩
theorem EY {m k:Nat} (hk:k<8) (h:bC m k=true):cK m (k:Int) true=0:=by
 rw [jf _ k true hk,if_pos];have:=(eO _ _).1 h;simp;omega
theorem Fs {T:ae} {g k:Nat} (hk:k<8) (h:bC (T.M g) k=true):cK ((T.dE g k).M g) (k:Int) true=0 :=
 EY hk (by rw [oK T g k k hk,if_neg (by omega)];exact h)
theorem bq.dE {T:ae} (hT:bq T) {g:Nat} (hg:g<T.n):∀k,k<=8->bq (T.dE g k)
 | 0,_=>hT
 | k+1,h=>by
  have ih:=hT.dE hg k (by omega);unfold ae.dE;split
  . rename_i c;exact ih.era (by rw [nA];exact hg) (by omega) (Fs (by omega) c)
  . exact ih
theorem bU.dE {T:ae} {H:Int->Nat} (hT:bU T H) {g:Nat} (hg:g<T.n):∀k,k<=8->bU (T.dE g k) H
 | 0,_=>hT
 | k+1,h=>by
  have ih:=hT.dE hg k (by omega);unfold ae.dE;split
  . rename_i c;exact ih.era (by rw [nA];exact hg) (by omega) (Fs (by omega) c)
  . exact ih
theorem Q8 {T:ae} {g:Nat} (hg:g<T.n) (i:Int) (g' k':Nat):∀k,k<=8->((T.dE g k).At i g' k'↔¬ (g'=g/\k'<k)/\T.At i g' k')
 | 0,_=>⟨λa=>⟨by omega,a⟩,λa=>a.2⟩
 | k+1,h=>by
  have ih:=Q8 hg i g' k' k (by omega);unfold ae.dE;split
  . rename_i c
    rw [qp (by rw [nA];exact hg) (by omega),ih]
    constructor
    . rintro ⟨h1,h2,h3⟩;exact ⟨by omega,h3⟩
    . rintro ⟨h1,h2⟩;exact ⟨by omega,by omega,h2⟩
  . rename_i c
    rw [ih]
    constructor
    . rintro ⟨h1,h2⟩
      refine ⟨λe=>?_,h2⟩;have e2:k'=k:=by omega
      have:=h2.full;rw [e.1,e2] at this;exact c this
    . rintro ⟨h1,h2⟩;exact ⟨by omega,h2⟩
theorem Az (T:ae) (g:Nat):(T.dw g).n=T.n:=nA T g 8
theorem bq.dw {T:ae} (hT:bq T) {g:Nat} (hg:g<T.n):bq (T.dw g):=hT.dE hg 8 (aL _)
theorem bU.dw {T:ae} {H:Int->Nat} (hT:bU T H) {g:Nat} (hg:g<T.n):bU (T.dw g) H:=hT.dE hg 8 (aL _)
theorem jP {T:ae} {g:Nat} (hg:g<T.n) (i:Int) (g' k':Nat):(T.dw g).At i g' k'↔g'≠g/\T.At i g' k':=by
 unfold ae.dw;rw [Q8 hg i g' k' 8 (aL _)]
 constructor
 . rintro ⟨h1,h2⟩;exact ⟨λe=>h1 ⟨e,h2.hk⟩,h2⟩
 . rintro ⟨h1,h2⟩;exact ⟨λe=>h1 e.1,h2⟩
theorem Cz (T:ae) {g g':Nat} (h:g'≠g):(T.dw g).M g'=T.M g'/\(T.dw g).S g'=T.S g':=kv T h 8
theorem QU (T:ae) (g:Nat):∀k,(T.dE g k).lv=T.lv-(((List.range k).filter (bC (T.M g))).length:Int)
 | 0=>by simp [ae.dE]
 | k+1=>by
  have ih:=QU T g k;unfold ae.dE;rw [List.range_succ,List.filter_append,List.length_append];split
  . rename_i c
    rw [show ((T.dE g k).era g k).lv=(T.dE g k).lv-1 from rfl,ih];simp [c];omega
  . rename_i c
    rw [ih];simp [c]
theorem AB (T:ae) (g:Nat):(T.dw g).lv=T.lv-((aS (T.M g) (T.S g)).length:Int):=by
 unfold ae.dw aS;rw [QU,List.length_map];rfl
theorem aB {w w':World} {base size n:Nat} {e:TypeId} {v:Value} {xs:List Value} (h:w.ownsRow base e size v n xs) (hg:Below w.heap.size w w'):w'.ownsRow base e size v n xs:=by
 refine ⟨h.1,?_⟩;rcases h.2 with h' | ⟨g,cap,cur,rfl,hb,hh,hr⟩
 . exact .inl h'
 . exact .inr ⟨g,cap,cur,rfl,hb,(hg.block g (Array.getElem?_eq_some_iff.1 hh).1).trans hh,hr⟩
section
variable {w w' w0:World} {B Q:Nat} {lp:Option Nat} {T:ae} {mt:aG} {E:Nat->Addr}
theorem eT.era (hS:eT w B Q lp T mt E w0) {g k:Nat} (hg:g<T.n) (hk:k<8) (hf:cK (T.M g) (k:Int) true=0) :
 Calls Tryz.prog 138 #[.pointer (some ⟨B,0,none⟩),.agg #[.pointer (some ⟨Q,g*25,none⟩),.int .i64 (k:Int)]] w λe w' =>
  e = .returned .nilIface/\eT w' B Q lp (T.era g k) mt E w0/\ah (λb=>b=B\/b=Q) w w':=by
 refine (Hl B Q T hS.good g k hg hk hf E w hS.t (hS.low.sub (by decide)).e).mono ?_;rintro e w' ⟨rfl,h1,h2⟩
 refine ⟨rfl,hS.full h1 (hS.good.era hg hk hf) (hS.m.aA h2 (λb e e2=>?_)) (h2.mono (λ_ _ e => .inr e)),h2⟩;have:=hS.hlp b e;rcases e2 with e2|e2
 . exact this.1 e2
 . exact this.2.1 e2
theorem eT.nl (hS:eT w B Q lp T mt E w0):∀b,w.heap.size<=b->¬lp=some b:=λb hb e=>by have:=(hS.m b e).lt;omega
theorem eT.look (hS:eT w B Q lp T mt E w0) (i:Nat) (hi:i<T.n) (q:Option Addr) (hq:di q lp) (x1 y1 z1:Int) :
 Calls Tryz.prog 181 #[.pointer (some ⟨B,0,none⟩),.agg #[.pointer q,.int .i64 x1,.int .i64 y1,.int .i64 z1],.int .i64 (i:Int)] w λe w' =>
  e = .returned (.tuple #[.agg #[.pointer (some ⟨Q,i*25,none⟩)],.bool true])/\eT w' B Q lp T (mt.add x1 y1 z1) E w0/\ah (λb=>lp=some b) w w':=by
 refine (Kj B Q T (by have:=hS.good.bounds;omega) i hi q lp hq mt x1 y1 z1 w hS.t hS.m (λb e=>⟨(hS.m b e).lt,(hS.hlp b e).1⟩)).mono ?_;rintro e w' ⟨rfl,h1,h2⟩
 exact ⟨rfl,hS.turn h1 h2,h2⟩
theorem eT.entries (hS:eT w B Q lp T mt E w0) (i:Nat) (hi:i<T.n) :
 Calls Tryz.prog 129 #[.agg #[.pointer (some ⟨Q,i*25,none⟩)]] w λe w' => ∃v,e = .returned v/\w'.ownsRow w.heap.size 46 3 v (aS (T.M i) (T.S i)).length (cB (aS (T.M i) (T.S i)))/\Below w.heap.size w w' :=
 Bp Q (i*25) (T.M i) (T.S i) (hS.good.Le i hi) w (hS.t.at' i hi) hS.low.t
theorem eT.gat (hS:eT w B Q lp T mt E w0) (i:Nat) (hi:i<T.n) (k:Int) :
 Calls Tryz.prog 98 #[.agg #[.pointer (some ⟨Q,i*25,none⟩)],.int .i64 k] w λe w'=>e = .returned (.tuple #[(atS (T.M i) (T.S i) k).pg,.bool (cK (T.M i) k true == 0)])/\Below w.heap.size w w' :=
 QS Q (i*25) (T.M i) (T.S i) (hS.good.Le i hi) k E w (hS.t.at' i hi) (hS.low.sub (by decide)).e
theorem eT.take (hS:eT w B Q lp T mt E w0) (i:Nat) (hi:i<T.n) (q:Option Addr) (hq:di q lp) (x1 y1 z1:Int) :
 Calls Tryz.prog 152 #[.pointer (some ⟨B,0,none⟩),.agg #[.pointer q,.int .i64 x1,.int .i64 y1,.int .i64 z1],.int .i64 (i:Int)] w λe w' =>
  ∃v,e = .returned (.tuple #[v,.nilIface])/\w'.ownsRow w.heap.size 46 3 v (aS (T.M i) (T.S i)).length (cB (aS (T.M i) (T.S i)))/\eT w' B Q lp (T.dw i) (mt.add x1 y1 z1) E w0/\ah (λb=>lp=some b\/b=B\/b=Q) w w':=by
 have HS:=aa hS;have LK:=aa (λ(w':World) (h:eT w' B Q lp T mt E w0)=>h.look i hi q hq x1 y1 z1);have EN:=aa (λ(w':World) (jX:aG) (h:eT w' B Q lp T jX E w0)=>h.entries i hi);have NL:=aa hS.nl;have hlB:=hS.Sg;have hlQ:=hS.Sd;obtain ⟨l,hl⟩:=dC (aS (T.M i) (T.S i));rw [<-hl] at EN ⊢;clear hS hl;go_enter Tryz.func152,Tryz.ntmps152
 go_wp2_with (first
  | (go_at_call 181;(with_reducible refine (LK.out _ (HS.out.alloc _)).mono ?_);rintro e w1 ⟨rfl,hs1,hc1⟩;have S1:=aa (hs1.alloc (.cells #[.pointer (some ⟨Q,i*25,none⟩)] 96));have V1:=af.new w1 96 #[.pointer (some ⟨Q,i*25,none⟩)];have C1:=aa ((ah.of_below (show Below w.heap.size w _ by go_grown)).trans hc1);have hz1:=C1.out.size;clear hs1)
  | (go_at_call 129;(with_reducible refine (EN.out _ _ S1.out).mono ?_);rintro e w2 ⟨v,rfl,hr2,hb2⟩;have S2:=aa (S1.out.later hb2);have R2:=aa (fU hr2 (show w.heap.size<=_ from qH hz1 (by simp)));have V2:=aa (V1.below hb2 V1.lt);have C2:=aa ((C1.out.alloc (.cells #[.pointer (some ⟨Q,i*25,none⟩)] 96)).au hb2);clear hr2 V1))
 obtain ⟨V,hV⟩:=dC w1.heap.size;have hwV:w.heap.size<=V:=by omega
 rw [<-hV] at V2;simp only [<-hV];clear hV S1 C1 hz1 hb2
 go_loopw [26] (λv26 wr => ∃k:Nat,k<=8/\v26 = .int .i64 (k:Int)/\eT wr B Q lp (T.dE i k) (mt.add x1 y1 z1) E w0/\wr.ownsRow w.heap.size 46 3 v l.length (cB l)/\af wr V 96 #[.pointer (some ⟨Q,i*25,none⟩)]/\ah (λb=>lp=some b\/b=B\/b=Q) w wr) (λv26 _=>8-(intOf v26).toNat)
 case atStart=>exact ⟨0,o7 _,rfl,S2.out,R2.out,V2.out,C2.out.mono (λ_ _ e => .inl e)⟩
 case round =>
  clear S2 R2 V2 C2;obtain ⟨k,hk,rfl,hs,hr,hv,hc⟩:=hrel;have KS:=aa hs;have KR:=aa hr;have KC:=aa hc;have KV:=aa hv;have v0:=hv.cell 0;have zV:=hv.lt;clear hs hr hc hv;by_cases hlt:k<8
  . have eQ:(k:Int)<8:=by omega
    have hn:i<(T.dE i k).n:=by rw [nA];exact hi
    have AT:=aa (λ(w':World) (h:eT w' B Q lp (T.dE i k) (mt.add x1 y1 z1) E w0)=>h.gat i hn (k:Int));have hfb:=oK T i k k hlt;rw [if_neg (by omega)] at hfb;obtain ⟨at3,hat⟩:=dC ((atS ((T.dE i k).M i) ((T.dE i k).S i) k));simp only [<-hat,ai.pg] at AT;clear hat;cases hf:bC (T.M i) k with
    | true =>
     have hfe:cK ((T.dE i k).M i) (k:Int) true=0:=EY hlt (hfb.trans hf);have hT2:T.dE i (k+1)=(T.dE i k).era i k:=by show (if bC (T.M i) k=true then _ else _)=_;rw [if_pos hf]
     have ER:=aa (λ(w':World) (h:eT w' B Q lp (T.dE i k) (mt.add x1 y1 z1) E w0)=>h.era hn hlt hfe);rw [<-hT2] at ER;have e0:(cK ((T.dE i k).M i) (k:Int) true == 0)=true:=by simp [hfe]
     rw [e0] at AT;clear e0 hfe hT2 hf hfb
     go_wp2_with (first
      | (go_at_call 98;(with_reducible refine (AT.out _ KS.out).mono ?_);rintro e w3 ⟨rfl,hb3⟩;have S3:=aa ((KS.out.later hb3).alloc (.cells #[.int .u64 at3.key,.int .u64 at3.val,.int .u64 at3.hash] 46));have hV3:=KV.out.below hb3 KV.out.lt;have V3:=aa (hV3.alloc (.cells #[.int .u64 at3.key,.int .u64 at3.val,.int .u64 at3.hash] 46));have v30:=hV3.cell 0;have zV3:=hV3.lt;clear hV3)
      | (go_at_call 138;(with_reducible refine (ER.out _ S3.out).mono ?_);rintro e w4 ⟨rfl,hs4,hc4⟩;have S4:=aa hs4;have C4:=aa (((KC.out.au hb3).alloc (.cells #[.int .u64 at3.key,.int .u64 at3.val,.int .u64 at3.hash] 46)).trans (hc4.mono (λ_ _ e => .inr e)));have V4:=aa (V3.out.aA hc4 (by rintro (e|e) <;> omega));clear hs4))
     go_roundw
     case rel =>
      refine ⟨k+1,by omega,by go_num,S4.out,?_,V4.out,C4.out⟩;exact fo (aB (aB KR.out hb3) ((aM _ _).alloc (aL _) _)) hc4 (by rintro b hb (e|e) <;> omega)
     case measure=>simp [intOf];omega
    | false =>
     have hT2:T.dE i (k+1)=T.dE i k:=by show (if bC (T.M i) k=true then _ else _)=_;rw [if_neg (by rw [hf];simp)]
     have e0:(cK ((T.dE i k).M i) (k:Int) true == 0)=false:=by
      rw [hf] at hfb;have h2:=(mi _ _).1 hfb;rw [jf _ k true hlt];simp;omega
     rw [e0] at AT;have HT2:=aa hT2;clear e0 hT2 hf hfb
     go_wp2_with (go_at_call 98;(with_reducible refine (AT.out _ KS.out).mono ?_);rintro e w3 ⟨rfl,hb3⟩;have S3:=aa ((KS.out.later hb3).alloc (.cells #[.int .u64 at3.key,.int .u64 at3.val,.int .u64 at3.hash] 46));have V3:=aa ((KV.out.below hb3 KV.out.lt).alloc (.cells #[.int .u64 at3.key,.int .u64 at3.val,.int .u64 at3.hash] 46)))
     go_roundw
     case rel=>exact ⟨k+1,by omega,by go_num,by rw [HT2.out];exact S3.out,aB (aB KR.out hb3) ((aM _ _).alloc (aL _) _),V3.out,(KC.out.au hb3).alloc _⟩
     case measure=>simp [intOf];omega
  . obtain rfl:k=8:=by omega
    go_wp2;go_ret2;exact ⟨v,rfl,KR.out,KS.out,KC.out⟩
end
end Go.Proofs.YtolhmibejhldkaaGreatDoor
