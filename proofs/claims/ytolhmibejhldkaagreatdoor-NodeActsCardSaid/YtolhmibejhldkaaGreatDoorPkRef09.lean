/- Joined texts; conditions within. -/
import Derived.Deep.CutBlock
import Derived.Test.YtolhmibejhldkaaGreatDoorPkSound
set_option linter.unusedVariables false
set_option linter.unusedSimpArgs false
set_option maxRecDepth 100000
set_option maxHeartbeats 8000000
namespace Go.Proofs.YtolhmibejhldkaaGreatDoor
open Go.RowKit Go.Proofs
def ae.EZ (T:ae) (h:Nat) (o:Option Nat):Int:=match o with|none => -1|some j=>(T.wk h j:Int)
def ae.Cj (T:ae) (h:Nat) (o:Option Nat):Int:=match o with|none => -1|some j=>dQ (T.M (T.wk h j))
def ae.fJ (T:ae) (h i:Nat):Option Nat:=ja (λj=>dQ (T.M (T.wk h j))) i
def ae.J4 (T:ae) (key:Int) (h:Nat):Int:=if T.has key h=true then (T.bn key h:Int) else -1
def ae.MW (T:ae) (key:Int) (h:Nat):Int:=if T.has key h=true then T.iQ key h else -1
theorem Oi (T:ae) (key:Int) (h:Nat):T.jU key h=T.Cj h (T.gU key h):=rfl
theorem Vv (T:ae) (key:Int) (h:Nat):T.gU key h=T.fJ h (T.looks key h):=rfl
theorem JR (T:ae) (h i:Nat):T.fJ h (i+1)=match T.fJ h i with|some j=>some j|none=>if 0<=dQ (T.M (T.wk h i)) then some i else none:=rfl
theorem ab2 {T:ae} {h i j:Nat} (e:T.fJ h i=some j):T.fJ h (i+1)=some j:=by rw [JR,e]
theorem ael {T:ae} {h i:Nat} (e:T.fJ h i=none) (hz:0<=dQ (T.M (T.wk h i))):T.fJ h (i+1)=some i:=by rw [JR,e];simp only;rw [if_pos hz]
theorem agM {T:ae} {h i:Nat} (hz:dQ (T.M (T.wk h i))<0):T.fJ h (i+1)=T.fJ h i:=by
 rw [JR];cases e:T.fJ h i with
 | some j=>rfl
 | none=>simp only;rw [if_neg (by omega)]
theorem LZ (T:ae) (h:Nat):T.EZ h none = -1/\T.Cj h none = -1:=⟨rfl,rfl⟩
theorem Bq (T:ae) (h j:Nat):T.EZ h (some j)=(T.wk h j:Int)/\T.Cj h (some j)=dQ (T.M (T.wk h j)):=⟨rfl,rfl⟩
theorem Et {T:ae} {key:Int} {h i:Nat} (hi:i<T.n) (hm:∀j,j<i->T.stop key h (T.wk h j)=false) (hs:T.stop key h (T.wk h i)=true):T.looks key h=i+1 :=
 Eu (f:=λj=>T.stop key h (T.wk h j)) (by omega) (by omega) (λj hj=>hm j (by omega)) (λ_=>by rw [Nat.add_sub_cancel];exact hs)
theorem Sj {T:ae} {key:Int} {h:Nat} (hn:1<=T.n) (hm:∀j,j<T.n->T.stop key h (T.wk h j)=false):T.looks key h=T.n :=
 Eu (f:=λj=>T.stop key h (T.wk h j)) hn (aL _) (λj hj=>hm j (by omega)) (λhlt=>absurd hlt (Nat.lt_irrefl _))
theorem BM {T:ae} {key:Int} {h i:Nat} {k:Int} (hi:i<T.n) (hm:∀j,j<i->T.stop key h (T.wk h j)=false) (hk:T.hit key h (T.wk h i)=k) (h0:0<=k) :
 T.looks key h=i+1/\T.J4 key h=(T.wk h i:Int)/\T.MW key h=k/\T.gU key h=T.fJ h (i+1):=by
 have hl:=Et hi hm (by unfold ae.stop;rw [hk];simp [h0]);have hlast:T.bn key h=T.wk h i:=by unfold ae.bn;rw [hl,Nat.add_sub_cancel]
 have haz:T.iQ key h=k:=by unfold ae.iQ;rw [hlast,hk]
 have hhas:T.has key h=true:=by unfold ae.has;rw [haz];simpa using h0
 refine ⟨hl,?_,?_,by rw [Vv,hl]⟩
 . unfold ae.J4;rw [if_pos hhas,hlast]
 . unfold ae.MW;rw [if_pos hhas,haz]
theorem rP {T:ae} {key:Int} {h i:Nat} (hi:i<T.n) (hm:∀j,j<i->T.stop key h (T.wk h j)=false) (hk:T.hit key h (T.wk h i)<0) (ho:bR (T.M (T.wk h i))=true) :
 T.looks key h=i+1/\T.J4 key h = -1/\T.MW key h = -1/\T.gU key h=T.fJ h (i+1):=by
 have hl:=Et hi hm (by unfold ae.stop;rw [ho];simp);have hlast:T.bn key h=T.wk h i:=by unfold ae.bn;rw [hl,Nat.add_sub_cancel]
 have hhas:T.has key h=false:=by unfold ae.has ae.iQ;rw [hlast];simp;omega
 refine ⟨hl,?_,?_,by rw [Vv,hl]⟩
 . unfold ae.J4;rw [hhas];rfl
 . unfold ae.MW;rw [hhas];rfl
theorem Jh {T:ae} {key:Int} {h g:Nat} (hk:T.hit key h g<0) (ho:bR (T.M g)=false):T.stop key h g=false:=by
 unfold ae.stop;rw [ho];simp;omega
theorem Ro {T:ae} {key:Int} {h:Nat} (hn:1<=T.n) (hm:∀j,j<T.n->T.stop key h (T.wk h j)=false) :
 T.looks key h=T.n/\T.J4 key h = -1/\T.MW key h = -1/\T.gU key h=T.fJ h T.n:=by
 have hl:=Sj hn hm;have hs:=hm (T.n-1) (by omega)
 have hhas:T.has key h=false:=by
  unfold ae.has ae.iQ ae.bn;rw [hl];unfold ae.stop at hs;simp only [Bool.or_eq_false_iff] at hs;exact hs.1
 refine ⟨hl,?_,?_,by rw [Vv,hl]⟩
 . unfold ae.J4;rw [hhas];rfl
 . unfold ae.MW;rw [hhas];rfl
theorem VC (T:ae) (g k:Nat) (hk:k<8):(T.dE g (k+1)).M g=ab5 ((T.dE g k).M g) (k:Int)/\(T.dE g (k+1)).S g=ab4 ((T.dE g k).M g) ((T.dE g k).S g) (k:Int):=by
 have hf:=oK T g k k hk;rw [if_neg (by omega)] at hf
 have hn:cK ((T.dE g k).M g) (k:Int) true=0↔bC (T.M g) k=true:=by
  rw [<-hf];exact ⟨λe=>mo hk e,λe=>EY hk e⟩
 unfold ab5 ab4;rw [show T.dE g (k+1)=if bC (T.M g) k=true then (T.dE g k).era g k else T.dE g k from rfl];by_cases c:bC (T.M g) k=true
 . rw [if_pos c,if_pos (hn.2 c),if_pos (hn.2 c),Int.toNat_natCast];exact ⟨upd_same _ _ _,upd_same _ _ _⟩
 . rw [if_neg c,if_neg (λe=>c (hn.1 e)),if_neg (λe=>c (hn.1 e))];exact ⟨rfl,rfl⟩
def nF (n j:Nat):Value:=if j % 4=0 then .int .i64 (if j / 4<n then 1 else 0) else .int .u64 0
theorem aiC:nC 32 (nF 0) = #[.int .i64 0,.int .u64 0,.int .u64 0,.int .u64 0,.int .i64 0,.int .u64 0,.int .u64 0,.int .u64 0,.int .i64 0,.int .u64 0,.int .u64 0,.int .u64 0,.int .i64 0,.int .u64 0,.int .u64 0,.int .u64 0,.int .i64 0,.int .u64 0,.int .u64 0,.int .u64 0,.int .i64 0,.int .u64 0,.int .u64 0,.int .u64 0,.int .i64 0,.int .u64 0,.int .u64 0,.int .u64 0,.int .i64 0,.int .u64 0,.int .u64 0,.int .u64 0]:=rfl
theorem aiB:nC 32 (nF 8)=nC 32 (dF (rep 128) (λ_=>ai.zero)):=by
 refine oO λj hj=>?_;unfold nF dF;rw [oG 128 (j / 4) (by decide) (by omega),if_pos (show j / 4<8 by omega)];by_cases h:j % 4=0
 . rw [if_pos h,if_pos h];rfl
 . rw [if_neg h,if_neg h];by_cases h1:j % 4=1
   . rw [if_pos h1];rfl
   . rw [if_neg h1];by_cases h2:j % 4=2
     . rw [if_pos h2];rfl
     . rw [if_neg h2];rfl
theorem adJ (n:Nat) (hn:n<8):(nC 32 (nF n)).setIfInBounds (n*4) (.int .i64 1)=nC 32 (nF (n+1)):=by
 rw [nV _ _ _ _ (by omega)];refine oO λj hj=>?_;by_cases e:j=n*4
 . subst e;rw [if_pos rfl];unfold nF;rw [if_pos (by omega),if_pos (by omega)]
 . rw [if_neg e];unfold nF;by_cases h:j % 4=0
   . rw [if_pos h,if_pos h];by_cases c:j / 4<n
     . rw [if_pos c,if_pos (by omega)]
     . rw [if_neg c,if_neg (by omega)]
   . rw [if_neg h,if_neg h]
theorem VF (w:World):Calls Tryz.prog 114 #[] w λe w'=>e = .returned (.pointer (some ⟨w.heap.size,0,none⟩))/\DW w' w.heap.size (rep 128) (λ_=>ai.zero)/\Below w.heap.size w w':=by
 have HS:=aa adJ;have HE:=aa aiB;go_enter Tryz.func114,Tryz.ntmps114
 go_wp2
 go_loopw [2,5] (λ_ v5 wr => ∃k:Nat,k<=8/\v5 = .int .i64 (k:Int)/\af wr w.heap.size 190 (nC 32 (nF k))/\Below w.heap.size w wr) (λ_ v5 _=>8-(intOf v5).toNat)
 case atStart=>exact ⟨0,by omega,rfl,by rw [aiC];exact af.new _ _ _,by go_grown⟩
 case round =>
  obtain ⟨k,hk,rfl,hb,hB⟩:=hrel;have HB:=aa hb;have hc:=hb.cell;have hfz:=hb.frozen;have hlb:=hb.lt;clear hb;by_cases hlt:k<8
  . have kJ:decide ((k:Int)<8)=true:=by simp;omega
    have hk8:(k:Int)<8:=by omega
    have c0:=hc (k*4);rw [gV _ _ _ (by omega)] at c0;clear hc;go_wp2
    go_roundw
    case rel=>exact ⟨k+1,by omega,by go_num,by rw [<-HS.out k hlt];exact HB.out.set _ _,hB.setCell (p:=⟨w.heap.size,_,none⟩) (aL _) _⟩
    case measure=>simp [intOf];omega
  . obtain rfl:k=8:=by omega
    clear hc;go_wp2;go_ret;exact ⟨rfl,by unfold DW;rw [<-HE.out];exact HB.out,hB⟩
def jO (m:Nat) (s:Nat->ai) (n:Nat):List ai:=((List.range n).filter (bC m)).map s
theorem Me {m:Nat} {s:Nat->ai} {n:Nat} (h:bC m n=true):jO m s (n+1)=jO m s n ++ [s n]:=by
 unfold jO;rw [List.range_succ,List.filter_append,List.map_append]
 congr 1
 simp [h]
theorem Ou {m:Nat} {s:Nat->ai} {n:Nat} (h:bC m n=false):jO m s (n+1)=jO m s n:=by
 unfold jO;rw [List.range_succ,List.filter_append,List.map_append];simp [h]
theorem SY (m:Nat) (s:Nat->ai) (n:Nat):(jO m s n).length<=n:=by
 have:=List.length_filter_le (bC m) (List.range n);simpa [jO] using this
theorem Bv (R m:Nat) (s:Nat->ai) (w:World) (h:DW w R m s) :
 Calls Tryz.prog 126 #[.pointer (some ⟨R,0,none⟩)] w λe w' => ∃v,e = .returned v/\w'.ownsRow w.heap.size 46 3 v (aS m s).length (cB (aS m s))/\Below w.heap.size w w':=by
 obtain ⟨i0,hi,hz0,hz1,hz2⟩:=info_parts acI;have HD:=aa h;have IX:=aa (λ(k:Nat) (hk:k<8) (w:World)=>Dr m s k hk w);have hl:=h.lt;have HLE:=aa (SY m s);rw [show aS m s=jO m s 8 from rfl];clear h;go_enter Tryz.func126,Tryz.ntmps126
 go_wp2_with (
  (refine eU rfl (jM (t:=188) rfl rfl Tryz.underlying188 rfl (HD.out.alloc _) (by rw [iR];exact Tryz.sizeOf188 _)) ?_)
  )
 go_loopw [3,11] (λv3 v11 wr => ∃k:Nat,k<=8/\v11 = .int .i64 (k:Int)/\wr.ownsRow w.heap.size 46 3 v3 (jO m s k).length (cB (jO m s k))/\Below w.heap.size w wr) (λ_ v11 _=>8-(intOf v11).toNat)
 case atStart=>exact ⟨0,by omega,rfl,⟨rfl,.inr ⟨w.heap.size,0,#[],rfl,aL _,af.new _ _ _,by simp [jO],by decide,rfl,by simp [jO,cB]⟩⟩,by go_grown⟩
 case round =>
  obtain ⟨k,hk,rfl,hrow,hB⟩:=hrel;have QM:=hB.size;obtain ⟨a3,ae1,rfl⟩:=bZ hrow;by_cases hlt:k<8
  . have kJ:decide ((k:Int)<8)=true:=by simp;omega
    have ix:=IX.out k hlt;have kk:=Lj m k;by_cases hf:bC m k=true
    . rw [hf] at kk;have HEQ:=aa (Me (s:=s) hf);have hle:=HLE.out k;have HR:=aa hrow;clear hf hrow;generalize jO m s k=l at *
      have HE3:=aa (Tc l (s k))
      go_wp2_with (at_builtin;refine wpList_append_own _ rfl _ _ 68 rfl w.heap.size 46 i0 (.agg #[.int .u64 0,.int .u64 0,.int .u64 0]) 3 24 Tryz.underlying68 hi hz0 hz1 hz2 rfl (by decide) _ _ _ rfl ((HR.out.alloc _).alloc _) ⟨wr.heap.size+1,0,none⟩ 1 1 [.int .u64 (s k).key,.int .u64 (s k).val,.int .u64 (s k).hash] rfl rfl (by have:=iO (wr.alloc (.cells #[.int .i64 ((dD (ln m k):Nat):Int),.int .u64 (s k).key,.int .u64 (s k).val,.int .u64 (s k).hash] 187)) (.int .u64 (s k).key) (.int .u64 (s k).val) (.int .u64 (s k).hash) 46;simpa using this) (by simp [Value.oneCell']) (by unfold maxLen;omega) (by omega) (by simp;omega) ?_;intro v' w4 jr ma _;have hb4:Below w.heap.size wr w4:=Below.trans (show Below w.heap.size wr _ from by go_grown) (Bz (HR.out.alloc _) (by simp;omega) ma);clear ma;replace jr:=aa jr)
      go_roundw
      case rel=>exact ⟨k+1,by omega,by go_num,by rw [HEQ.out,HE3.out,List.length_append];exact jr.out,hB.trans hb4⟩
      case measure=>simp [intOf];omega
    . replace hf:bC m k=false:=by simpa using hf
      rw [hf] at kk;have HEQ:=aa (Ou (s:=s) hf);have HR:=aa hrow;clear hf hrow;go_wp2
      go_roundw
      case rel=>exact ⟨k+1,by omega,by go_num,by rw [HEQ.out];exact HR.out.alloc _,by go_grown⟩
      case measure=>simp [intOf];omega
  . obtain rfl:k=8:=by omega
    have HR:=aa hrow;clear hrow;go_wp2;go_ret;exact ⟨_,rfl,HR.out,hB⟩
theorem dx (g:Int) (w:World) :
 Calls Tryz.prog 113 #[.int .i64 g] w λe w'=>e = .returned (.bool (aN g))/\w=w':=by
 have HR:=aa (dG g);go_enter Tryz.func113,Tryz.ntmps113
 go_wp2
 go_loop [3] (λv=>(v = .int .i64 1)\/(v = .int .i64 2/\g≠1)\/(v = .int .i64 4/\g≠1/\g≠2)\/(v = .int .i64 8/\g≠1/\g≠2/\g≠4)\/(v = .int .i64 16/\g≠1/\g≠2/\g≠4/\g≠8)\/(v = .int .i64 32/\g≠1/\g≠2/\g≠4/\g≠8/\g≠16)\/(v = .int .i64 64/\g≠1/\g≠2/\g≠4/\g≠8/\g≠16/\g≠32)\/(v = .int .i64 128/\g≠1/\g≠2/\g≠4/\g≠8/\g≠16/\g≠32/\g≠64)) (λv=>128-(intOf v).toNat)
 case atStart=>exact .inl rfl
 case round =>
  rcases hrel with rfl | ⟨rfl,h1⟩ | ⟨rfl,h1,h2⟩ | ⟨rfl,h1,h2,h4⟩ | ⟨rfl,h1,h2,h4,h8⟩ | ⟨rfl,h1,h2,h4,h8,h16⟩ | ⟨rfl,h1,h2,h4,h8,h16,h32⟩ | ⟨rfl,h1,h2,h4,h8,h16,h32,h64⟩
  . by_cases h:g=1
    . have hb:aN g=true:=HR.out.2 (by omega);replace hb:=aa hb;subst h;go_wp2;go_ret;exact ⟨by rw [hb.out];rfl,rfl⟩
    . go_wp2
      go_round
      case rel=>((refine .inr ?_;simp;omega))
      case measure=>simp [intOf]
  . by_cases h:g=2
    . have hb:aN g=true:=HR.out.2 (by omega);replace hb:=aa hb;subst h;go_wp2;go_ret;exact ⟨by rw [hb.out];rfl,rfl⟩
    . go_wp2
      go_round
      case rel=>((refine .inr ?_;simp;omega))
      case measure=>simp [intOf]
  . by_cases h:g=4
    . have hb:aN g=true:=HR.out.2 (by omega);replace hb:=aa hb;subst h;go_wp2;go_ret;exact ⟨by rw [hb.out];rfl,rfl⟩
    . go_wp2
      go_round
      case rel=>((refine .inr ?_;simp;omega))
      case measure=>simp [intOf]
  . by_cases h:g=8
    . have hb:aN g=true:=HR.out.2 (by omega);replace hb:=aa hb;subst h;go_wp2;go_ret;exact ⟨by rw [hb.out];rfl,rfl⟩
    . go_wp2
      go_round
      case rel=>((refine .inr ?_;simp;omega))
      case measure=>simp [intOf]
  . by_cases h:g=16
    . have hb:aN g=true:=HR.out.2 (by omega);replace hb:=aa hb;subst h;go_wp2;go_ret;exact ⟨by rw [hb.out];rfl,rfl⟩
    . go_wp2
      go_round
      case rel=>((refine .inr ?_;simp;omega))
      case measure=>simp [intOf]
  . by_cases h:g=32
    . have hb:aN g=true:=HR.out.2 (by omega);replace hb:=aa hb;subst h;go_wp2;go_ret;exact ⟨by rw [hb.out];rfl,rfl⟩
    . go_wp2
      go_round
      case rel=>((refine .inr ?_;simp;omega))
      case measure=>simp [intOf]
  . by_cases h:g=64
    . have hb:aN g=true:=HR.out.2 (by omega);replace hb:=aa hb;subst h;go_wp2;go_ret;exact ⟨by rw [hb.out];rfl,rfl⟩
    . go_wp2
      go_round
      case rel=>((refine .inr ?_;simp;omega))
      case measure=>simp [intOf]
  . have hb:aN g=false:=by rw [Bool.eq_false_iff,ne_eq,HR.out];omega
    replace hb:=aa hb;go_wp2;go_ret;exact ⟨by rw [hb.out];rfl,rfl⟩
def o6:Nat->Nat
 | 0=>0
 | k+1=>o6 k+k
theorem Ue (k:Nat):2*o6 k=k*(k-1):=by
 induction k with
 | zero=>rfl
 | succ k ih =>
  have h:o6 (k+1)=o6 k+k:=rfl;rw [h,Nat.mul_add,ih];cases k with
  | zero=>rfl
  | succ j=>simp only [Nat.add_sub_cancel,Nat.add_mul,Nat.mul_add];omega
theorem Rs (i:Nat):o6 (i+1)=i*(i+1) / 2:=by
 have h:=Ue (i+1);rw [Nat.add_sub_cancel,Nat.mul_comm (i+1) i] at h;omega
theorem Qy (k:Nat) (h:k<=65):o6 k<=65*k:=by
 induction k with
 | zero=>exact aL _
 | succ k ih=>have:=ih (by omega);show o6 k+k<=65*(k+1);omega
theorem Ur (h g i:Nat) (hr:aN (g:Int)=true) (hh:h<18446744073709551616) (hi:i<g) (w:World) :
 Calls Tryz.prog 184 #[.int .u64 (h:Int),.int .i64 (g:Int),.int .i64 (i:Int)] w λe w'=>e = .returned (.tuple #[.int .i64 ((bE h g i:Nat):Int),.int .i64 0])/\w=w':=by
 have hgb:=dZ hr;have hX:h % g<g:=Nat.mod_lt _ (by omega);have hval:(h % g+o6 (i+1)) % g=bE h g i:=by unfold bE;rw [Rs,Nat.mod_add_mod]
 have hmod:(h:Int) % (g:Int)=((h % g:Nat):Int):=by omega
 generalize bE h g i=y at *
 generalize h % g=X at *
 have HV:=aa hval;have RT:=λw=>dx (g:Int) w;rw [hr] at RT;replace RT:=aa RT;clear hr hval;have T0:(X:Int)=((X+o6 0:Nat):Int):=by simp [o6]
 replace T0:=aa T0;go_enter Tryz.func184,Tryz.ntmps184
 go_wp2_with (first|(go_at_call 113;refine (RT.out _).mono ?_;rintro e w' ⟨rfl,rfl⟩))
 go_loop [8,9] (λv8 v9 => ∃k:Nat,k<=i+1/\v9 = .int .i64 (k:Int)/\v8 = .int .u64 ((X+o6 k:Nat):Int)) (λ_ v9=>i+1-(intOf v9).toNat)
 case atStart=>exact ⟨0,by omega,rfl,by rw [<-T0.out,hmod]⟩
 case round =>
  obtain ⟨k,hk,rfl,rfl⟩:=hrel;by_cases hlt:k<i+1
  . have hle:(k:Int)<=(i:Int):=by omega
    have ht:=Qy k (by omega);have hs:((X+o6 k:Nat):Int)+(k:Int)=((X+o6 (k+1):Nat):Int):=by show _=((X+(o6 k+k):Nat):Int);omega
    have HS:=aa hs;clear hs;have hS:X+o6 k<=65*65+64:=by omega
    generalize X+o6 k=S at *
    go_wp2
    go_round
    case rel=>exact ⟨k+1,by omega,by go_num,by rw [<-HS.out]⟩
    case measure=>simp [intOf];omega
  . obtain rfl:k=i+1:=by omega
    have ht:=Qy (i+1) (by omega);have hv:((X+o6 (i+1):Nat):Int) % (g:Int)=(y:Int):=by rw [<-HV.out];omega
    have hy:y<g:=by rw [<-HV.out];exact Nat.mod_lt _ (by omega)
    generalize X+o6 (i+1)=S at *
    go_wp2;go_ret2;exact ⟨rfl,rfl⟩
theorem Jr (h:Nat) (n:Int) (hh:h<18446744073709551616) (w:World) :
 Calls Tryz.prog 161 #[.int .u64 (h:Int),.int .i64 n] w λe w' => ∃v,e = .returned v/\w'.ownsRow w.heap.size 3 1 v (Bc n) ((Jy h n).map (Value.int .i64))/\Below w.heap.size w w':=by
 obtain ⟨i0,hi,hz0,hz1,hz2⟩:=info_parts abH;have RT:=λw=>dx n w;rw [UD];by_cases hr:aN n=true
 . obtain ⟨g,rfl⟩:=Int.eq_ofNat_of_zero_le (show 0<=n by rw [dG] at hr;omega);have hgb:=dZ hr;have hN:Bc (g:Int)=g:=by unfold Bc;rw [if_pos hr];simp
   rw [hN,Int.toNat_natCast];have AT:=aa (λ(i:Nat) (hi:i<g) (w:World)=>Ur h g i hr hh hi w);rw [hr] at RT;replace RT:=aa RT;clear hr hN;go_enter Tryz.func161,Tryz.ntmps161
   go_wp2;have hb0:Below w.heap.size w (w.alloc (.cells #[] 3)):=(aM _ _).alloc (aL _) _
   go_loopw [5,6,7,8] (λv5 v6 _ _ wr => ∃ (k:Nat),k<=g/\v6 = .int .i64 (k:Int)/\wr.ownsRow w.heap.size 3 1 v5 k ((List.range k).map (encI (λi=>((bE h g i:Nat):Int))))/\Below w.heap.size w wr) (λ_ v6 _ _ _=>g-(intOf v6).toNat)
   case atStart=>exact ⟨0,o7 _,rfl,by simpa using gW (af.new w _ _),hb0⟩
   case round =>
    obtain ⟨k,hk,rfl,hrow2,hbo⟩:=hrel;clear hb0;have HR2:=aa hrow2;obtain ⟨Q9,c2',rfl⟩:=bZ hrow2;have hzo:=hbo.size;have hsn:=aa (Tk (λi=>((bE h g i:Nat):Int)) k);clear hrow2;by_cases hlt:k<g
    . have AK:=aa (AT.out k hlt);generalize bE h g k=y at *
      go_wp2_with (first
       | (go_at_call 113;refine (RT.out _).mono ?_;rintro e w' ⟨rfl,rfl⟩)
       | (go_at_call 184;refine (AK.out _).mono ?_;rintro e w' ⟨rfl,rfl⟩)
       | (at_builtin;refine wpList_append_own _ rfl _ _ 171 rfl w.heap.size 3 i0 (.int .i64 0) 1 8 Tryz.underlying171 hi hz0 hz1 hz2 rfl (by decide) _ _ _ rfl (HR2.out.alloc _) ⟨wr.heap.size,0,none⟩ 1 1 [.int .i64 (y:Int)] rfl rfl (cell_one_new _ _ _) (by simp [Value.oneCell']) (by unfold maxLen;omega) (by omega) (by simp;omega) ?_;intro v' w4 jr ma _;have hb4:=Bz HR2.out hzo ma;clear ma;replace jr:=aa jr))
      go_roundw
      case rel=>exact ⟨k+1,by omega,by go_num,by rw [hsn.out];simpa using jr.out,hbo.trans hb4⟩
      case measure=>simp [intOf];omega
    . obtain rfl:k=g:=by omega
      go_wp2_with (first
       | (go_at_call 113;refine (RT.out _).mono ?_;rintro e w' ⟨rfl,rfl⟩))
      go_ret;exact ⟨_,rfl,HR2.out,hbo⟩
 . have hN:Bc n=0:=by unfold Bc;rw [if_neg hr]
   rw [hN];rw [show aN n=false by simpa using hr] at RT;replace RT:=aa RT;clear hr hN;go_enter Tryz.func161,Tryz.ntmps161
   go_wp2;refine wp_loop_rounds 1 ?_;rw [rounds_succ]
   go_wp2_with (first
    | (go_at_call 113;refine (RT.out _).mono ?_;rintro e w' ⟨rfl,rfl⟩))
   go_ret;exact ⟨_,rfl,by simpa using gW (af.new w _ _),(aM _ _).alloc (aL _) _⟩
theorem af.grown {w w':World} {B:Nat} {T:TypeId} {c:Array Value} {row:Option Nat} (h:af w B T c) (hg:w.grownBy w' row) (hne:row≠some B):af w' B T c:=(hg.block B h.lt (λe=>hne e.symm)).trans h
theorem af.Be {w:World} {a b:Nat} {S T:TypeId} {c d:Array Value} (h:af w a S c) (k:af w b T d) (hne:S≠T):a≠b:=λe=>by
 subst e;have:=h.symm.trans k;simp at this
 exact hne this.2
theorem DY {w:World} {base size n:Nat} {e T:TypeId} {v:Value} {xs:List Value} (h:w.ownsRow base e size v n xs) {B:Nat} {c:Array Value} (hb:af w B T c) (hne:T≠e):v.ownBlock≠some B:=by
 rcases h.2 with ⟨rfl,-⟩ | ⟨g,cap,cur,rfl,-,hg,-⟩
 . intro e;cases e
 . intro e1;have e2:g=B:=Option.some.inj e1;exact af.Be hb (show af w g e cur from hg) hne e2.symm
structure DT (w:World) (lo hi D P cap:Nat) (GB:Nat->Nat) (T:ae) (L:Int):Prop where
 head:af w D 130 #[.slice (some ⟨P,0,none⟩) T.n cap,.int .i64 L]
 ptr:∀i,i<T.n->w.cell? ⟨P,i,none⟩=some (.pointer (some ⟨GB i,0,none⟩))
 pz:P<w.heap.size
 g:∀i,i<T.n->DW w (GB i) (T.M i) (T.S i)
 dp:D≠P
 gd:∀i,i<T.n->GB i≠D/\GB i≠P
 gg:∀i j,i<T.n->j<T.n->i≠j->GB i≠GB j
 id:lo<=D/\D<hi
 ip:lo<=P/\P<hi
 ig:∀i,i<T.n->lo<=GB i/\GB i<hi
 hz:hi<=w.heap.size
 good:bq T
theorem DT.later {w w':World} {lo hi D P cap:Nat} {GB:Nat->Nat} {T:ae} {L:Int} (h:DT w lo hi D P cap GB T L) (hb:Below w.heap.size w w'):DT w' lo hi D P cap GB T L :=
 ⟨h.head.below hb h.head.lt,λi hi=>(hb.cell (p:=⟨P,i,none⟩) h.pz).trans (h.ptr i hi),bM h.pz hb.size,λi hi=>(h.g i hi).below hb (h.g i hi).lt,h.dp,h.gd,h.gg,h.id,h.ip,h.ig,qH h.hz hb.size,h.good⟩
theorem DT.aA {X:Nat->Prop} {w w':World} {lo hi D P cap:Nat} {GB:Nat->Nat} {T:ae} {L:Int} (h:DT w lo hi D P cap GB T L) (hc:ah X w w') (hX:∀b,lo<=b->b<hi->¬X b):DT w' lo hi D P cap GB T L :=
 ⟨h.head.aA hc (hX _ h.id.1 h.id.2),λi hi=>(hc.cell (p:=⟨P,i,none⟩) h.pz (hX _ h.ip.1 h.ip.2)).trans (h.ptr i hi),bM h.pz hc.size,λi hi=>(h.g i hi).aA hc (hX _ (h.ig i hi).1 (h.ig i hi).2),h.dp,h.gd,h.gg,h.id,h.ip,h.ig,qH h.hz hc.size,h.good⟩
theorem DT.alloc {w:World} {lo hi D P cap:Nat} {GB:Nat->Nat} {T:ae} {L:Int} (h:DT w lo hi D P cap GB T L) (o:Obj):DT (w.alloc o) lo hi D P cap GB T L:=h.later ((aM _ _).alloc (aL _) o)
theorem DT.drew {w:World} {lo hi D P cap:Nat} {GB:Nat->Nat} {T:ae} {L:Int} (h:DT w lo hi D P cap GB T L):DT w.drew lo hi D P cap GB T L:=h.later (aM _ _).drew
theorem DT.looks {w:World} {lo hi D P cap:Nat} {GB:Nat->Nat} {T:ae} {L:Int} (h:DT w lo hi D P cap GB T L) (L':Int):DT (w.setCell ⟨D,1,none⟩ (.int .i64 L')) lo hi D P cap GB T L':=by
 have hC:ah (λb=>b=D) w (w.setCell ⟨D,1,none⟩ (.int .i64 L')):=(ah.refl _ _).set1 _ _;exact ⟨h.head.set 1 _,λi hi=>(hC.cell (p:=⟨P,i,none⟩) h.pz (λe=>h.dp e.symm)).trans (h.ptr i hi),bM h.pz hC.size,λi hi=>(h.g i hi).aA hC (h.gd i hi).1,h.dp,h.gd,h.gg,h.id,h.ip,h.ig,qH h.hz hC.size,h.good⟩
theorem DT.group {w w':World} {lo hi D P cap:Nat} {GB:Nat->Nat} {T T':ae} {L:Int} (h:DT w lo hi D P cap GB T L) {i:Nat} (hi':i<T.n) (hn:T'.n=T.n) (hg:DW w' (GB i) (T'.M i) (T'.S i)) (hc:ah (λb=>b=GB i) w w')
 (ho:∀j,j≠i->T'.M j=T.M j/\T'.S j=T.S j) (hgood:bq T'):DT w' lo hi D P cap GB T' L:=by
 have hd:=h.gd i hi';refine ⟨by rw [hn];exact h.head.aA hc (λe=>hd.1 e.symm),λj hj=>?_,bM h.pz hc.size,λj hj=>?_,h.dp,λj hj=>h.gd j (by omega),λj k hj hk=>h.gg j k (by omega) (by omega),h.id,h.ip,λj hj=>h.ig j (by omega),qH h.hz hc.size,hgood⟩
 . exact (hc.cell (p:=⟨P,j,none⟩) h.pz (λe=>hd.2 e.symm)).trans (h.ptr j (by omega))
 . by_cases e:j=i
   . subst e;exact hg
   . rw [(ho j e).1,(ho j e).2];exact (h.g j (by omega)).aA hc (h.gg j i (by omega) hi' e)
theorem il {w:World} {lo hi D P cap:Nat} {GB:Nat->Nat} {T:ae} {L:Int} (h:DT w lo hi D P cap GB T L):w.cell? ⟨D,0,none⟩=some (.slice (some ⟨P,0,none⟩) T.n cap)/\w.cell? ⟨D,1,none⟩=some (.int .i64 L)/\D<w.heap.size/\(∀j,w.frozen? ⟨D,j,none⟩=false):=⟨h.head.cell 0,h.head.cell 1,h.head.lt,λj=>h.head.frozen j⟩
theorem adW:(Tryz.prog.info? 172).map (λi=>(i.zero,i.size,i.bytes))=some (some (.pointer none),1,8):=by kernel_rfl
theorem Uo {w:World} {base k:Nat} {v:Value} {F:Nat->Nat} {e:TypeId} (h:w.ownsRow base e 1 v k ((List.range k).map (λi=>Value.pointer (some ⟨F i,0,none⟩)))) (hk:1<=k) :
 ∃g cap cur,v = .slice (some ⟨g,0,none⟩) k cap/\base<=g/\af w g e cur/\∀i,i<k->w.cell? ⟨g,i,none⟩=some (.pointer (some ⟨F i,0,none⟩)):=by
 rcases h.2 with ⟨rfl,rfl⟩ | ⟨g,cap,cur,rfl,hb,hg,h1,h2,h3,h4⟩
 . omega
 . refine ⟨g,cap,cur,rfl,hb,hg,λi hi=>?_⟩;have h5:=h.cells (g:=g) rfl i
   have h6:(⟨g,0,none⟩:Addr).add i=⟨g,i,none⟩:=by
    simp only [Addr.add];split
    . rename_i e;rw [e]
    . simp
   rw [h6] at h5;exact h5 _ (by simp [hi])
structure DN (wr:World) (D k:Nat) (v:Value) (GB:Nat->Nat) (w:World):Prop where
 head:af wr D 130 #[v,.int .i64 0]
 row:wr.ownsRow (D+1) 172 1 v k ((List.range k).map (λi=>Value.pointer (some ⟨GB i,0,none⟩)))
 g:∀i,i<k->DW wr (GB i) (rep 128) (λ_=>ai.zero)
 lt:∀i,i<k->w.heap.size<=GB i
 inc:∀i j,i<j->j<k->GB i<GB j
 b:Below w.heap.size w wr
theorem Mj (n:Nat) (hr:aN (n:Int)=true) (w:World) :
 Calls Tryz.prog 60 #[.int .i64 (n:Int)] w λe w' => ∃D P cap GB,e = .returned (.tuple #[.pointer (some ⟨D,0,none⟩),.int .i64 0])/\DT w' w.heap.size w'.heap.size D P cap GB (ae.new n) 0/\Below w.heap.size w w':=by
 obtain ⟨iP,hiP,aiN,aiM,aiL⟩:=info_parts adW;have RT:=λw=>dx (n:Int) w;have hn:=dZ hr;have HR:=aa hr;rw [hr] at RT;clear hr;go_enter Tryz.func60,Tryz.ntmps60
 go_wp2_with (go_at_call 113;refine (RT _).mono ?_;rintro e w' ⟨rfl,rfl⟩)
 obtain ⟨D,hD⟩:=dC w.heap.size;have D0:=aa (show DN (w.alloc (.cells #[.slice none 0 0,.int .i64 0] 130)) D 0 (.slice none 0 0) (λ_=>0) w from ⟨by rw [hD];exact af.new _ _ _,⟨rfl,.inl ⟨rfl,rfl⟩⟩,λi hi=>by omega,λi hi=>by omega,λi j _ hj=>by omega,(aM _ _).alloc (aL _) _⟩);have hDw:w.heap.size<=D:=by omega
 simp only [<-hD];clear hD
 go_loopw [5] (λv5 wr => ∃ (k:Nat) (v:Value) (GB:Nat->Nat),k<=n/\v5 = .int .i64 (k:Int)/\DN wr D k v GB w) (λv5 _=>n-(intOf v5).toNat)
 case atStart=>exact ⟨0,_,_,o7 _,rfl,D0.out⟩
 case round =>
  clear D0;obtain ⟨k,v,GB,hk,rfl,hS⟩:=hrel;obtain ⟨a,cap,rfl⟩:=bZ hS.row;have KS:=aa hS;have c0:=hS.head.cell 0;have zD:=hS.head.lt;have zw:=hS.b.size;clear hS;by_cases hlt:k<n
  . have kJ:(k:Int)<(n:Int):=by omega
    go_wp2;refine ag (λ_=>False) #[⟨0,0,2^16,16,0⟩,⟨0,0,2^17,16,0⟩,⟨2,2,2^18,2^17,0⟩,⟨4,6,2^19,2^18,0⟩,⟨8,14,2^20,2^19,1⟩,⟨0,0,2^21,0,2⟩,⟨32,32,2^22,2^21,2⟩,⟨112,126,2^23,(2^20+2^22),3⟩,⟨255,255,2^24,2^16,0⟩,⟨511,511,2^25,2^24,0⟩,⟨767,1023,0,(2^23+2^25),3⟩] 16 [(0,0),(1,0),(2,0),(3,0),(4,1),(5,2),(6,2),(7,3),(8,0),(9,0),(10,3)] (by kernel_rfl) (by kernel_rfl) (by kernel_rfl) (by kernel_rfl) (by kernel_rfl) (by kernel_rfl) (λc a d v w h=>by cases d <;> exact h) ?_;refine aj ?_;refine aj ?_;refine aj ?_;refine aj ?_;refine bW Tryz.underlying128 ?_
    try refine aC ?_
    refine iK λK hK=>?_;go_wp2_with (go_at_call 114;refine (VF _).mono ?_;rintro e w2 ⟨rfl,hg2,hb2⟩;have G2:=aa hg2;have hz2:wr.heap.size<=w2.heap.size:=(by have:=hb2.size;simpa using this);have B2:=aa (show Below wr.heap.size wr w2 from Below.bS hb2);clear hg2);refine iX hK (h:=?_);clear hK K
    try refine aC ?_
    refine iK λK hK=>?_;go_wp2_with (fail);refine iX hK (h:=?_);clear hK K
    try refine aC ?_
    refine fA λK hK=>?_;(refine wp_append_own _ _ _ 128 rfl (D+1) 172 iP (.pointer none) 1 8 Tryz.underlying128 hiP aiN aiM aiL rfl (by decide) _ _ _ rfl (aB (aB KS.out.row B2.out) ((aM _ _).alloc (aL _) _)) ⟨w2.heap.size,0,none⟩ 1 1 [.pointer (some ⟨wr.heap.size,0,none⟩)] rfl rfl (nP w2 _ _) (by simp [Value.oneCell']) (by unfold maxLen;omega) (by omega) (by simp;omega) ?_;intro v' w3 hown3 hgrow3 _;obtain ⟨g',cap',rfl⟩:=ownsRow_succ hown3;have R3:=aa hown3;have GR:=aa hgrow3;have ND:=aa (DY (aB (aB KS.out.row B2.out) ((aM _ _).alloc (aL _) (.cells #[.pointer (some ⟨wr.heap.size,0,none⟩)] 172))) (((KS.out.head.below B2.out KS.out.head.lt).alloc (.cells #[.pointer (some ⟨wr.heap.size,0,none⟩)] 172))) (by decide));have H3:=aa (af.grown ((KS.out.head.below B2.out KS.out.head.lt).alloc _) GR.out ND.out);have d30:=H3.out.cell 0;have zD3:=H3.out.lt;have df3:=λj=>H3.out.frozen j;clear hown3 hgrow3);refine hK.out _ _ ?_;clear hK K
    try refine aC ?_;refine aj ?_;refine aj ?_
    refine fA λK hK=>?_;go_wp2_with (fail);refine hK.out _ _ ?_;clear hK K
    try refine aC ?_
    refine aD ?_;go_wp2
    go_roundw
    case rel =>
     refine ⟨k+1,.slice (some ⟨g',0,none⟩) (k+1) cap',λi=>if i=k then wr.heap.size else GB i,by omega,by go_num,?_⟩;have hC:ah (λb=>b=D) w3 (w3.setCell ⟨D,0,none⟩ (.slice (some ⟨g',0,none⟩) (k+1) cap')):=(ah.refl _ _).set1 _ _;have hal:Below w2.heap.size w2 (w2.alloc (.cells #[.pointer (some ⟨wr.heap.size,0,none⟩)] 172)):=(aM _ _).alloc (aL _) _;have hrow:=aB (aB KS.out.row B2.out) hal
     have hDW:∀ (G m:Nat) (s:Nat->ai),DW w2 G m s->DW (w3.setCell ⟨D,0,none⟩ (.slice (some ⟨g',0,none⟩) (k+1) cap')) G m s:=λG m s h=>by
      have h1:DW (w2.alloc (.cells #[.pointer (some ⟨wr.heap.size,0,none⟩)] 172)) G m s:=h.alloc _;have h2:DW w3 G m s:=af.grown h1 GR.out (DY hrow h1 (by decide));exact h2.aA hC (af.Be h2 H3.out (by decide))
     refine ⟨H3.out.set 0 _,fo ?_ hC (λb hb e=>by omega),λi hi=>?_,λi hi=>?_,λi j hij hj=>?_,?_⟩
     . have h1:=R3.out;rw [List.range_succ,List.map_append]
       have h2:(List.range k).map (λi=>Value.pointer (some ⟨if i=k then wr.heap.size else GB i,0,none⟩))=(List.range k).map (λi=>Value.pointer (some ⟨GB i,0,none⟩)):=by
        apply List.map_congr_left
        intro i hi;rw [if_neg (by have:=List.mem_range.1 hi;omega)]
       rw [h2];simpa using h1
     . by_cases e:i=k
       . subst e;simp only [if_true];exact hDW _ _ _ G2.out
       . simp only [if_neg e];exact hDW _ _ _ ((KS.out.g i (by omega)).below B2.out (KS.out.g i (by omega)).lt)
     . by_cases e:i=k
       . simp only [if_pos e];exact zw
       . simp only [if_neg e];exact KS.out.lt i (by omega)
     . have e1:i≠k:=by omega
       simp only [if_neg e1];by_cases e:j=k
       . simp only [if_pos e];exact (KS.out.g i (by omega)).lt
       . simp only [if_neg e];exact KS.out.inc i j hij (by omega)
     . have h1:=(KS.out.b.trans (B2.out.mono zw)).trans (hal.mono (qH zw hz2));have h2:Below w.heap.size w w3:=h1.grown GR.out h1.size (λq eq=>by have:=(hrow.lt q eq).1;omega);exact h2.setCell (p:=⟨D,0,none⟩) hDw _
    case measure=>simp [intOf];omega
  . obtain rfl:k=n:=by omega
    obtain ⟨g,cap',cur,e,hgb,hgk,hgc⟩:=Uo KS.out.row hn.1;cases e
    go_wp2;go_ret2;refine ⟨D,g,cap,GB,rfl,⟨KS.out.head,hgc,hgk.lt,λi hi=>KS.out.g i hi,af.Be KS.out.head hgk (by decide),λi hi=>⟨af.Be (KS.out.g i hi) KS.out.head (by decide),af.Be (KS.out.g i hi) hgk (by decide)⟩,λi j hi hj hij=>?_,⟨hDw,zD⟩,⟨by omega,hgk.lt⟩,λi hi=>⟨KS.out.lt i hi,(KS.out.g i hi).lt⟩,aL _,bq.new HR.out⟩,KS.out.b⟩;rcases Nat.lt_or_gt_of_ne hij with c|c
    . exact Nat.ne_of_lt (KS.out.inc i j c hj)
    . exact Nat.ne_of_gt (KS.out.inc j i c hi)
theorem mV {w:World} {lo hi D P cap:Nat} {GB:Nat->Nat} {T:ae} {L:Int} (h:DT w lo hi D P cap GB T L) (kd:Nat) :
 Calls Tryz.prog 131 #[.pointer (some ⟨D,0,none⟩),.int .i64 (kd:Int)] w λe w'=>e = .returned (.int .i64 ((T.cnt kd:Nat):Int))/\Below w.heap.size w w':=by
 obtain ⟨c0,-,zD,-⟩:=il h;have hn:=h.good.bounds;have HS:=aa (show ∀k,gp (λi=>aV (T.M i) kd) k<=8*k from λk=>AO λi _=>qP _ _);have HD:=aa h;unfold ae.cnt;clear h;go_enter Tryz.func131,Tryz.ntmps131
 go_wp2
 go_loopw [13,5] (λv13 v5 wr => ∃k:Nat,k<=T.n/\v13 = .int .i64 (k:Int)/\v5 = .int .i64 ((gp (λi=>aV (T.M i) kd) k:Nat):Int)/\Below w.heap.size w wr) (λv13 _ _=>T.n-(intOf v13).toNat)
 case atStart=>exact ⟨0,o7 _,rfl,rfl,aM _ _⟩
 case round =>
  clear c0;obtain ⟨k,hk,rfl,rfl,hB⟩:=hrel;have KD:=aa (HD.out.later hB);have gM:=HS.out k;by_cases hlt:k<T.n
  . have kJ:(k:Int)<(T.n:Int):=by omega
    have p0:=KD.out.ptr k hlt;have zP:=KD.out.pz;have CN:=aa (λ(w':World) (h:DW w' (GB k) (T.M k) (T.S k))=>kC (GB k) (T.M k) kd (T.S k) w' h);have hc8:=qP (T.M k) kd;have hstep:gp (λi=>aV (T.M i) kd) (k+1)=gp (λi=>aV (T.M i) kd) k+aV (T.M k) kd:=rfl;have HST:=aa hstep;clear hstep;generalize gp (λi=>aV (T.M i) kd) k=s at *
    generalize aV (T.M k) kd=c at *
    go_wp2_with (go_at_call 164;(with_reducible refine (CN.out _ (KD.out.g k hlt)).mono ?_);rintro e w2 ⟨rfl,hb2⟩)
    go_roundw
    case rel=>exact ⟨k+1,by omega,by go_num,by rw [HST.out];go_num,hB.trans (hb2.mono hB.size)⟩
    case measure=>simp [intOf];omega
  . obtain rfl:k=T.n:=by omega
    go_wp2;go_ret;exact ⟨rfl,hB⟩
theorem Oy {w:World} {lo hi D P cap:Nat} {GB:Nat->Nat} {T:ae} {L:Int} (h:DT w lo hi D P cap GB T L) :
 Calls Tryz.prog 123 #[.pointer (some ⟨D,0,none⟩)] w λe w'=>e = .returned (.int .i64 T.left)/\Below w.heap.size w w':=by
 obtain ⟨c0,-,zD,-⟩:=il h;have hn:=h.good.bounds;have C2:=aa (λ(w':World) (h:DT w' lo hi D P cap GB T L)=>mV h 2);have C3:=aa (λ(w':World) (h:DT w' lo hi D P cap GB T L)=>mV h 3);rw [<-h.good.tb] at C2;rw [<-h.good.lv] at C3;simp only [show ((2:Nat):Int)=2 from rfl] at C2;simp only [show ((3:Nat):Int)=3 from rfl] at C3;have HD:=aa h;unfold ae.left;generalize T.lv=lv at *
 generalize T.tb=tb at *
 have e1:7*(T.n:Int)-tb-lv=7*(T.n:Int)-lv-tb:=by omega
 have e2:IntKind.i64.wrap (7*(T.n:Int))=7*(T.n:Int):=by rw [IntKind.wrap_i64];omega
 have e3:IntKind.i64.wrap (7*(T.n:Int)-tb)=7*(T.n:Int)-tb:=by rw [IntKind.wrap_i64];omega
 have e4:IntKind.i64.wrap (7*(T.n:Int)-tb-lv)=7*(T.n:Int)-tb-lv:=by rw [IntKind.wrap_i64];omega
 rw [<-e1];clear h e1;go_enter Tryz.func123,Tryz.ntmps123
 go_wp2;refine ag (λ_=>False) #[⟨0,0,8,1,0⟩,⟨1,1,16,8,0⟩,⟨2,3,32,16,0⟩,⟨4,7,64,32,1⟩,⟨8,15,128,64,0⟩,⟨16,31,256,128,0⟩,⟨0,0,512,1,0⟩,⟨64,64,1024,512,2⟩,⟨160,255,2048,1280,0⟩,⟨0,0,4096,1,0⟩,⟨640,704,8192,4096,2⟩,⟨1280,2047,2^14,(2^11+2^13),0⟩,⟨4095,4095,4,2^14,0⟩] 8 [(0,0),(1,0),(2,0),(3,1),(4,0),(5,0),(6,0),(9,0),(7,2),(8,0),(10,2),(11,0),(12,0)] (by kernel_rfl) (by kernel_rfl) (by kernel_rfl) (by kernel_rfl) (by kernel_rfl) (by kernel_rfl) (λc a d v w h=>by cases d <;> exact h) ?_;refine aj ?_;refine aj ?_;refine aj ?_;refine bW Tryz.underlying128 ?_
 try refine aC ?_;refine aj ?_;refine aj ?_;refine aj ?_;refine aj ?_
 refine iK λK hK=>?_;go_wp2_with (first|(go_at_call 131;(with_reducible refine (C2.out _ HD.out.drew).mono ?_);rintro e w2 ⟨rfl,hb2⟩)|(go_at_call 131;(with_reducible refine (C3.out _ (HD.out.drew.later hb2)).mono ?_);rintro e w3 ⟨rfl,hb3⟩));refine iX hK (h:=?_);clear hK K
 try refine aC ?_;refine aj ?_
 refine iK λK hK=>?_;go_wp2_with (first|(go_at_call 131;(with_reducible refine (C2.out _ HD.out.drew).mono ?_);rintro e w2 ⟨rfl,hb2⟩)|(go_at_call 131;(with_reducible refine (C3.out _ (HD.out.drew.later hb2)).mono ?_);rintro e w3 ⟨rfl,hb3⟩));refine iX hK (h:=?_);clear hK K
 try refine aC ?_;refine aj ?_;refine aj ?_
 refine aD ?_;go_wp2;go_ret;exact ⟨rfl,(Below.bS hb2).trans (hb3.mono hb2.size)⟩
structure DWh (wr:World) (lo hi D P cap:Nat) (GB:Nat->Nat) (T:ae) (L:Int) (b0 h i:Nat) (o:Option Nat) (av:Value) (pG:List Int) (w:World):Prop where
 t:DT wr lo hi D P cap GB T L
 r0:af wr b0 183 #[.int .i64 0,.int .i64 0]
 r1:af wr (b0+1) 183 #[.int .i64 0,.int .i64 0]
 a:af wr (b0+1+1) 183 #[.int .i64 (-1),.int .i64 (-1)]
 f:af wr (b0+1+1+1) 183 #[.int .i64 (T.EZ h o),.int .i64 (T.Cj h o)]
 l:wr.ownsRow (b0+1+1+1+1) 3 1 av pG.length (pG.map (Value.int .i64))
 c:ah (λb=>b=D) w wr
section
variable {wr w' w:World} {lo hi D P cap:Nat} {GB:Nat->Nat} {T:ae} {L:Int} {b0 h i:Nat} {o:Option Nat} {av:Value} {pG:List Int}
theorem DWh.later (hS:DWh wr lo hi D P cap GB T L b0 h i o av pG w) (hb:Below wr.heap.size wr w'):DWh w' lo hi D P cap GB T L b0 h i o av pG w :=
 ⟨hS.t.later hb,hS.r0.below hb hS.r0.lt,hS.r1.below hb hS.r1.lt,hS.a.below hb hS.a.lt,hS.f.below hb hS.f.lt,aB hS.l hb,hS.c.au hb⟩
theorem bg {w:World} {C:Nat} {T:TypeId} {a b:Value} (h:af w C T #[a,b]):w.cell? ⟨C,0,none⟩=some a/\w.cell? ⟨C,1,none⟩=some b:=⟨h.cell 0,h.cell 1⟩
end
theorem qc {w:World} {lo hi D P cap:Nat} {GB:Nat->Nat} {T:ae} {L:Int} (hd:DT w lo hi D P cap GB T L) (hL:0<=L/\L<=1000000000) (key:Int) (h:Nat) (hh:h<18446744073709551616) :
 Calls Tryz.prog 121 #[.pointer (some ⟨D,0,none⟩),.int .u64 key,.int .u64 (h:Int)] w λe w' =>
  e = .returned (.tuple #[.agg #[.int .i64 (T.J4 key h),.int .i64 (T.MW key h)],.agg #[.int .i64 (T.EZ h (T.gU key h)),.int .i64 (T.Cj h (T.gU key h))]])/\
  DT w' lo hi D P cap GB T (L+T.looks key h)/\ah (λb=>b=D) w w':=by
 have hn:=hd.good.bounds;have hr:=hd.good.right;have hDz:=hd.head.lt;have hiz:=hd.hz;have HGD:=aa hd.good.good;have HD:=aa hd;obtain ⟨c0,c1,-,-⟩:=il hd;have e128:(h:Int) / 128=((h / 128:Nat):Int):=by omega
 have h128:h / 128<18446744073709551616:=by omega
 have hoN:Bc (T.n:Int)=T.n:=by unfold Bc;rw [if_pos hr];simp
 obtain ⟨pG,hoL,hoG,hO⟩:∃pG:List Int,pG.length=T.n/\(∀i (hi:i<pG.length),pG[i]=((T.wk h i:Nat):Int))/\(∀w',Calls Tryz.prog 161 #[.int .u64 ((h / 128:Nat):Int),.int .i64 (T.n:Int)] w' λe w'' => ∃v,e = .returned v/\w''.ownsRow w'.heap.size 3 1 v T.n (pG.map (Value.int .i64))/\Below w'.heap.size w' w'') :=
  ⟨Jy (h / 128) (T.n:Int),(KY _ _).trans hoN,λi hi=>by rw [UE];unfold ae.wk;rw [Int.toNat_natCast],λw'=>by have:=Jr (h / 128) (T.n:Int) h128 w';rw [hoN] at this;exact this⟩
 have OR:=aa hO;obtain ⟨u,hu⟩:=dC (h / 128);rw [<-hu] at e128 OR;have HWK:=aa (show ∀i,T.wk h i<T.n from λi=>nI (h / 128) T.n i (by omega));have HOG:=aa hoG;clear hd hu h128 hoN hoG hO;go_enter Tryz.func121,Tryz.ntmps121
 have zD1:D<w.heap.size+1:=by omega
 have TL:D<w.heap.size+1+1:=by omega
 have zD3:D<w.heap.size+1+1+1:=by omega
 go_wp2_with (go_at_call 161;(with_reducible refine (OR.out _).mono ?_);rintro e w1 ⟨av,rfl,hr1,hb1⟩;obtain ⟨oa,RU,rfl⟩:=bZ hr1;have R1:=aa hr1;have B1:=aa hb1;have hz1:=hb1.size;clear hr1 hb1)
 refine bG (λwL og=>?_);obtain ⟨b0,hb0⟩:=dC w.heap.size
 have D0:=aa (show DWh wL lo hi D P cap GB T (L+(0:Nat)) b0 h 0 (T.fJ h 0) (.slice oa T.n RU) pG w by
  rw [og,hb0,show L+((0:Nat):Int)=L by simp];refine ⟨HD.out.later ?_,?_,?_,?_,?_,?_,?_⟩
  . exact Below.trans (show Below w.heap.size w _ by go_grown) (B1.out.mono (by simp;omega))
  . exact ((((af.new w _ _).alloc _).alloc _).alloc _).below B1.out (by simp;omega)
  . exact (((af.aF (by simp)).alloc _).alloc _).below B1.out (by simp)
  . exact ((af.aF (by simp)).alloc _).below B1.out (by simp)
  . exact af.below (af.aF (by simp)) B1.out (by simp)
  . rw [hoL];have:=R1.out;simpa using this
  . exact ah.of_below (Below.trans (show Below w.heap.size w _ by go_grown) (B1.out.mono (by simp;omega))))
 have hbD:D<b0:=by omega
 have hib:hi<=b0:=by omega
 rw [<-hb0];have HB0:=aa hb0;replace og:=aa og;clear hb0;clear c0 c1 zD1 TL zD3 hz1 R1 B1 OR
 go_loopw [26] (λv26 wr => ∃i:Nat,i<=T.n/\v26 = .int .i64 (i:Int)/\DWh wr lo hi D P cap GB T (L+(i:Nat)) b0 h i (T.fJ h i) (.slice oa T.n RU) pG w/\∀j,j<i->T.stop key h (T.wk h j)=false) (λv26 _=>T.n-(intOf v26).toNat)
 case atStart=>exact ⟨0,o7 _,rfl,D0.out,λj hj=>by omega⟩
 case round =>
  clear D0;obtain ⟨i,hile,rfl,hS,hm⟩:=hrel;have KS:=aa hS;have KM:=aa hm;clear hS hm;by_cases hlt:i<T.n
  . have hiI:(i:Int)<(T.n:Int):=by omega
    obtain ⟨oa',akq,e,hcs⟩:=(GN KS.out.l).cellsOf;obtain ⟨e1,-,-⟩:=Value.slice.inj e;obtain ⟨b,off,rfl,hcell⟩:=hcs i (by omega);subst e1;have g0:=hcell wr (aM _ _);rw [HOG.out i (by omega)] at g0;have hbz:=qx _ _ g0;have hx:=HWK.out i;obtain ⟨d0,d1,zD,df⟩:=il KS.out.t;have hdp:D≠P:=KS.out.t.dp;have LB:P≠D:=Ne.symm hdp;have e1:IntKind.i64.wrap (L+(i:Int)+1)=L+((i+1:Nat):Int):=by rw [IntKind.wrap_i64];omega
    have MZ:Hid (T.wk h i=T.wk h i):=aa rfl;obtain ⟨x,hxe⟩:=dC (T.wk h i);rw [<-hxe] at g0 hx;have HX:=aa hxe;have p0:=KS.out.t.ptr x hx;have zP:=KS.out.t.pz;have zG:=(KS.out.t.g x hx).lt;have hxI:(x:Int)<(T.n:Int):=by omega
    clear hxe MZ hcs hcell e;go_upto_region 6 with (fail)
    refine bG (λw2 hw2=>?_);have hC2:ah (λb=>b=D) wr (wr.setCell ⟨D,1,none⟩ (.int .i64 (L+((i+1:Nat):Int)))):=(ah.refl _ _).set1 _ _
    have S2:=aa (show DWh w2 lo hi D P cap GB T (L+((i+1:Nat):Int)) b0 h i (T.fJ h i) (.slice (some ⟨b,off,none⟩) T.n RU) pG w by
     rw [hw2]
     exact ⟨KS.out.t.looks _,KS.out.r0.aA hC2 (by omega),KS.out.r1.aA hC2 (by omega),KS.out.a.aA hC2 (by omega),KS.out.f.aA hC2 (by omega),fo KS.out.l hC2 (λb hb e=>by omega),KS.out.c.trans hC2⟩)
    obtain ⟨d20,d21,TL,df2⟩:=il S2.out.t;have UC:=S2.out.t.ptr x hx;have M6:=S2.out.t.pz;have LE:=aa (λ(w':World) (hd:DW w' (GB x) (T.M x) (T.S x))=>OC (GB x) (T.M x) (T.S x) w' hd);rw [<-Ci] at LE;replace hw2:=aa hw2;clear KS g0 d0 d1 zD df p0 zP zG hbz hC2;go_upto_region 8 with (go_at_call 162;(with_reducible refine (LE.out _ (S2.out.t.g x hx)).mono ?_);rintro e w3 ⟨rfl,hb3⟩;have S3:=aa (S2.out.later hb3))
    obtain ⟨f0,f1⟩:=bg S3.out.f;have zf:=S3.out.f.lt;have ff:=λj=>S3.out.f.frozen j;clear d20 d21 TL df2 UC M6;obtain ⟨z,hz⟩:=dC (dQ (T.M x));have HZ:Hid (z=dQ (T.M (T.wk h i))):=aa (by rw [hz,HX.out]);rw [<-hz];clear hz;by_cases hz0:0<=z
    . cases ho:T.fJ h i with
      | none =>
       have hnew:=ael ho (by rw [<-HZ.out];exact hz0);rw [ho] at f0 f1 S3;rw [(LZ T h).1] at f0;have HN:=aa hnew;have hC3:ah (λb=>b=b0+1+1+1) w3 ((w3.setCell ⟨b0+1+1+1,0,none⟩ (.int .i64 (x:Int))).setCell ⟨b0+1+1+1,1,none⟩ (.int .i64 z)):=((ah.refl _ _).set1 _ _).set1 _ _;have M0:=aa hC3;clear ho hnew hC3;go_upto_region 10 with (fail)
       refine bG (λw4 hw4=>?_)
       have KC:=aa (show DWh w4 lo hi D P cap GB T (L+((i+1:Nat):Int)) b0 h (i+1) (T.fJ h (i+1)) (.slice (some ⟨b,off,none⟩) T.n RU) pG w by
        rw [hw4,HN.out];refine ⟨S3.out.t.aA M0.out (λb hb1 hb2 e=>by omega),S3.out.r0.aA M0.out (by omega),S3.out.r1.aA M0.out (by omega),S3.out.a.aA M0.out (by omega),?_,fo S3.out.l M0.out (λb hb e=>by omega),S3.out.c.trans' M0.out (λb hb e=>?_)⟩
        . have:=(S3.out.f.set 0 (.int .i64 (x:Int))).set 1 (.int .i64 z);rw [(Bq T h i).1,(Bq T h i).2,<-HZ.out,<-HX.out];exact this
        . have:=HB0.out;omega)
       replace hw4:=aa hw4;clear S3 HN M0 f0 f1 zf ff hz0;have zG4:=(KC.out.t.g x hx).lt;have FI:=aa (λ(w':World) (hd:DW w' (GB x) (T.M x) (T.S x))=>Cn (GB x) (T.M x) h (T.S x) key (HGD.out x hx) hh w' hd);rw [<-Ff (HGD.out x hx)] at FI;have HHT:Hid (T.hit key h (T.wk h i)=eP (T.S x) key (aI (aU (T.M x) (h % 128)))):=aa (by rw [<-HX.out];rfl);generalize eP (T.S x) key (aI (aU (T.M x) (h % 128)))=zf at *
       by_cases hzf:0<=zf
       . go_upto_region 12 with (go_at_call 163;(with_reducible refine (FI.out _ (KC.out.t.g x hx)).mono ?_);rintro e w5 ⟨rfl,hb5⟩;have S5:=aa (KC.out.later hb5))
         have TA:=aa (BM hlt KM.out HHT.out hzf);obtain ⟨f0,f1⟩:=bg S5.out.f;obtain ⟨a0,a1⟩:=bg S5.out.a;have z0:=S5.out.r0.lt;have z1:=S5.out.r1.lt;have z2:=S5.out.a.lt;have z3:=S5.out.f.lt;have n0:=λj=>S5.out.r0.frozen j;have n1':=λj=>S5.out.r1.frozen j;obtain ⟨q0,q1⟩:=bg S5.out.r0;obtain ⟨q2,q3⟩:=bg S5.out.r1;refine ag (λb=>b=b0\/b=b0+1) #[⟨0,0,2^62,2048,0⟩,⟨0,0,2^63,2^14,0⟩,⟨3,3,2^64,(2^62+2^63),0⟩,⟨0,0,2^65,512,1⟩,⟨7,7,0,(2^6+2^64),2⟩,⟨31,31,0,(2^7+2^65),3⟩] 8 [(0,0),(1,0),(2,0),(3,1),(4,2),(5,3)] (by kernel_rfl) (by kernel_rfl) (by kernel_rfl) (by kernel_rfl) (by kernel_rfl) (by kernel_rfl) (λc a d v w h=>by cases d <;> exact h) ?_;refine aj ?_;refine aj ?_;refine aj ?_;refine jR [_,_] Tryz.underlying183 ?_
         try refine aC ?_
         refine iK λK hK=>?_;go_wp2_with (fail);refine iX hK (h:=?_);clear hK K
         try refine aC ?_
         refine fA λK hK=>?_;go_wp2_with (fail);refine hK.out _ _ ?_;clear hK K
         try refine aC ?_
         refine aD ?_;go_wp2;refine aJ (λWf hWf=>?_);have hR0:af Wf b0 183 #[.int .i64 ((x:Int)),.int .i64 (zf)]:=by rw [hWf];exact af.drew ((((S5.out.r0.set 0 _).set 1 _).other (by omega) _ _).other (by omega) _ _)
         have hR1:af Wf (b0+1) 183 #[.int .i64 (T.EZ h (T.fJ h (i+1))),.int .i64 (T.Cj h (T.fJ h (i+1)))]:=by rw [hWf];exact af.drew ((((S5.out.r1.other (by omega) _ _).other (by omega) _ _).set 0 _).set 1 _)
         have hC:ah (λb=>b=b0\/b=b0+1) w5 Wf:=by rw [hWf];exact (((((ah.refl _ _).setCell (.inl (.inl rfl)) _).setCell (.inl (.inl rfl)) _).setCell (.inl (.inr rfl)) _).setCell (.inl (.inr rfl)) _).drew
         obtain ⟨x0,x1⟩:=bg hR0;obtain ⟨y0,y1⟩:=bg hR1;obtain ⟨hl1,hl2,hl3,hl4⟩:=TA.out;rw [hl1,hl2,hl3,hl4]
         exact bodyPost_ret (v := .tuple #[.agg #[.int .i64 ((x:Int)),.int .i64 (zf)],.agg #[.int .i64 (T.EZ h (T.fJ h (i+1))),.int .i64 (T.Cj h (T.fJ h (i+1)))]]) (by simp [results,Tryz.results121,go_sem,x0,x1,y0,y1]) rfl
          ⟨by rw [<-HX.out],S5.out.t.aA hC (λb h1 h2=>by rintro (e|e) <;> omega),S5.out.c.trans' hC (λb hb e=>by have:=HB0.out;rcases e with e|e <;> omega)⟩
       . have Ls:zf<0:=by omega
         have CN:=aa (λ(w':World) (h:DW w' (GB x) (T.M x) (T.S x))=>kC (GB x) (T.M x) 1 (T.S x) w' h);simp only [show ((1:Nat):Int)=1 from rfl] at CN;have o1:decide (((aV (T.M x) 1:Nat):Int) > 0)=bR (T.M x):=by rw [ko,Bool.eq_iff_iff];simp
         generalize ((aV (T.M x) 1:Nat):Int)=n1 at CN o1;cases hop:bR (T.M x) with
         | true =>
          rw [hop] at o1;have TA:=aa (rP hlt KM.out (by rw [HHT.out];exact Ls) (by rw [<-HX.out];exact hop));clear hop
          go_upto_region 15 with (first
           | (go_at_call 163;(with_reducible refine (FI.out _ (KC.out.t.g x hx)).mono ?_);rintro e w5 ⟨rfl,hb5⟩;have S5:=aa (KC.out.later hb5))
           | (go_at_call 164;(with_reducible refine (CN.out _ (S5.out.t.g x hx)).mono ?_);rintro e w6 ⟨rfl,hb6⟩;have S6:=aa (S5.out.later hb6)))
          obtain ⟨f0,f1⟩:=bg S6.out.f;obtain ⟨a0,a1⟩:=bg S6.out.a;have z0:=S6.out.r0.lt;have z1:=S6.out.r1.lt;have z2:=S6.out.a.lt;have z3:=S6.out.f.lt;have n0:=λj=>S6.out.r0.frozen j;have n1':=λj=>S6.out.r1.frozen j;obtain ⟨q0,q1⟩:=bg S6.out.r0;obtain ⟨q2,q3⟩:=bg S6.out.r1;refine ag (λb=>b=b0\/b=b0+1) #[⟨0,0,2^70,256,1⟩,⟨0,0,2^71,512,1⟩,⟨1,1,0,(2^6+2^70),2⟩,⟨7,7,0,(2^7+2^71),3⟩] 3 [(0,1),(1,1),(2,2),(3,3)] (by kernel_rfl) (by kernel_rfl) (by kernel_rfl) (by kernel_rfl) (by kernel_rfl) (by kernel_rfl) (λc a d v w h=>by cases d <;> exact h) ?_;refine jR [_,_] Tryz.underlying183 ?_
          try refine aC ?_
          refine jR [_,_] Tryz.underlying183 ?_
          try refine aC ?_
          refine iK λK hK=>?_;go_wp2_with (fail);refine iX hK (h:=?_);clear hK K
          try refine aC ?_
          refine fA λK hK=>?_;go_wp2_with (fail);refine hK.out _ _ ?_;clear hK K
          try refine aC ?_
          refine aD ?_;go_wp2;refine aJ (λWf hWf=>?_);have hR0:af Wf b0 183 #[.int .i64 (-1),.int .i64 (-1)]:=by rw [hWf];exact af.drew ((((S6.out.r0.set 0 _).set 1 _).other (by omega) _ _).other (by omega) _ _)
          have hR1:af Wf (b0+1) 183 #[.int .i64 (T.EZ h (T.fJ h (i+1))),.int .i64 (T.Cj h (T.fJ h (i+1)))]:=by rw [hWf];exact af.drew ((((S6.out.r1.other (by omega) _ _).other (by omega) _ _).set 0 _).set 1 _)
          have hC:ah (λb=>b=b0\/b=b0+1) w6 Wf:=by rw [hWf];exact (((((ah.refl _ _).setCell (.inl (.inl rfl)) _).setCell (.inl (.inl rfl)) _).setCell (.inl (.inr rfl)) _).setCell (.inl (.inr rfl)) _).drew
          obtain ⟨x0,x1⟩:=bg hR0;obtain ⟨y0,y1⟩:=bg hR1;obtain ⟨hl1,hl2,hl3,hl4⟩:=TA.out;rw [hl1,hl2,hl3,hl4]
          exact bodyPost_ret (v := .tuple #[.agg #[.int .i64 (-1),.int .i64 (-1)],.agg #[.int .i64 (T.EZ h (T.fJ h (i+1))),.int .i64 (T.Cj h (T.fJ h (i+1)))]]) (by simp [results,Tryz.results121,go_sem,x0,x1,y0,y1]) rfl
           ⟨by rfl,S6.out.t.aA hC (λb h1 h2=>by rintro (e|e) <;> omega),S6.out.c.trans' hC (λb hb e=>by have:=HB0.out;rcases e with e|e <;> omega)⟩
         | false =>
          rw [hop] at o1;have HST:=aa (Jh (T:=T) (key:=key) (h:=h) (g:=T.wk h i) (by rw [HHT.out];exact Ls) (by rw [<-HX.out];exact hop));clear hop
          go_wp2_with (first
           | (go_at_call 163;(with_reducible refine (FI.out _ (KC.out.t.g x hx)).mono ?_);rintro e w5 ⟨rfl,hb5⟩;have S5:=aa (KC.out.later hb5))
           | (go_at_call 164;(with_reducible refine (CN.out _ (S5.out.t.g x hx)).mono ?_);rintro e w6 ⟨rfl,hb6⟩;have S6:=aa (S5.out.later hb6)))
          go_roundw
          case rel=>exact ⟨i+1,by omega,by go_num,S6.out,λj hj=>by
           by_cases e:j=i
           . subst e;exact HST.out
           . exact KM.out j (by omega)⟩
          case measure=>simp [intOf];omega
      | some j =>
       have hnew:=ab2 ho;rw [ho] at f0 f1 S3;rw [(Bq T h j).1] at f0;have HN:=aa hnew;have e2:decide (((T.wk h j:Nat):Int)<0)=false:=by simp
       clear ho hnew;go_upto_region 10 with (fail)
       refine bG (λw4 hw4=>?_)
       have KC:=aa (show DWh w4 lo hi D P cap GB T (L+((i+1:Nat):Int)) b0 h (i+1) (T.fJ h (i+1)) (.slice (some ⟨b,off,none⟩) T.n RU) pG w by
        rw [hw4,HN.out]
        exact ⟨S3.out.t,S3.out.r0,S3.out.r1,S3.out.a,S3.out.f,S3.out.l,S3.out.c⟩)
       replace hw4:=aa hw4;clear S3 HN f0 f1 zf ff hz0 e2;have zG4:=(KC.out.t.g x hx).lt;have FI:=aa (λ(w':World) (hd:DW w' (GB x) (T.M x) (T.S x))=>Cn (GB x) (T.M x) h (T.S x) key (HGD.out x hx) hh w' hd);rw [<-Ff (HGD.out x hx)] at FI;have HHT:Hid (T.hit key h (T.wk h i)=eP (T.S x) key (aI (aU (T.M x) (h % 128)))):=aa (by rw [<-HX.out];rfl);generalize eP (T.S x) key (aI (aU (T.M x) (h % 128)))=zf at *
       by_cases hzf:0<=zf
       . go_upto_region 12 with (go_at_call 163;(with_reducible refine (FI.out _ (KC.out.t.g x hx)).mono ?_);rintro e w5 ⟨rfl,hb5⟩;have S5:=aa (KC.out.later hb5))
         have TA:=aa (BM hlt KM.out HHT.out hzf);obtain ⟨f0,f1⟩:=bg S5.out.f;obtain ⟨a0,a1⟩:=bg S5.out.a;have z0:=S5.out.r0.lt;have z1:=S5.out.r1.lt;have z2:=S5.out.a.lt;have z3:=S5.out.f.lt;have n0:=λj=>S5.out.r0.frozen j;have n1':=λj=>S5.out.r1.frozen j;obtain ⟨q0,q1⟩:=bg S5.out.r0;obtain ⟨q2,q3⟩:=bg S5.out.r1;refine ag (λb=>b=b0\/b=b0+1) #[⟨0,0,2^62,2048,0⟩,⟨0,0,2^63,2^14,0⟩,⟨3,3,2^64,(2^62+2^63),0⟩,⟨0,0,2^65,512,1⟩,⟨7,7,0,(2^6+2^64),2⟩,⟨31,31,0,(2^7+2^65),3⟩] 8 [(0,0),(1,0),(2,0),(3,1),(4,2),(5,3)] (by kernel_rfl) (by kernel_rfl) (by kernel_rfl) (by kernel_rfl) (by kernel_rfl) (by kernel_rfl) (λc a d v w h=>by cases d <;> exact h) ?_;refine aj ?_;refine aj ?_;refine aj ?_;refine jR [_,_] Tryz.underlying183 ?_
         try refine aC ?_
         refine iK λK hK=>?_;go_wp2_with (fail);refine iX hK (h:=?_);clear hK K
         try refine aC ?_
         refine fA λK hK=>?_;go_wp2_with (fail);refine hK.out _ _ ?_;clear hK K
         try refine aC ?_
         refine aD ?_;go_wp2;refine aJ (λWf hWf=>?_);have hR0:af Wf b0 183 #[.int .i64 ((x:Int)),.int .i64 (zf)]:=by rw [hWf];exact af.drew ((((S5.out.r0.set 0 _).set 1 _).other (by omega) _ _).other (by omega) _ _)
         have hR1:af Wf (b0+1) 183 #[.int .i64 (T.EZ h (T.fJ h (i+1))),.int .i64 (T.Cj h (T.fJ h (i+1)))]:=by rw [hWf];exact af.drew ((((S5.out.r1.other (by omega) _ _).other (by omega) _ _).set 0 _).set 1 _)
         have hC:ah (λb=>b=b0\/b=b0+1) w5 Wf:=by rw [hWf];exact (((((ah.refl _ _).setCell (.inl (.inl rfl)) _).setCell (.inl (.inl rfl)) _).setCell (.inl (.inr rfl)) _).setCell (.inl (.inr rfl)) _).drew
         obtain ⟨x0,x1⟩:=bg hR0;obtain ⟨y0,y1⟩:=bg hR1;obtain ⟨hl1,hl2,hl3,hl4⟩:=TA.out;rw [hl1,hl2,hl3,hl4]
         exact bodyPost_ret (v := .tuple #[.agg #[.int .i64 ((x:Int)),.int .i64 (zf)],.agg #[.int .i64 (T.EZ h (T.fJ h (i+1))),.int .i64 (T.Cj h (T.fJ h (i+1)))]]) (by simp [results,Tryz.results121,go_sem,x0,x1,y0,y1]) rfl
          ⟨by rw [<-HX.out],S5.out.t.aA hC (λb h1 h2=>by rintro (e|e) <;> omega),S5.out.c.trans' hC (λb hb e=>by have:=HB0.out;rcases e with e|e <;> omega)⟩
       . have Ls:zf<0:=by omega
         have CN:=aa (λ(w':World) (h:DW w' (GB x) (T.M x) (T.S x))=>kC (GB x) (T.M x) 1 (T.S x) w' h);simp only [show ((1:Nat):Int)=1 from rfl] at CN;have o1:decide (((aV (T.M x) 1:Nat):Int) > 0)=bR (T.M x):=by rw [ko,Bool.eq_iff_iff];simp
         generalize ((aV (T.M x) 1:Nat):Int)=n1 at CN o1;cases hop:bR (T.M x) with
         | true =>
          rw [hop] at o1;have TA:=aa (rP hlt KM.out (by rw [HHT.out];exact Ls) (by rw [<-HX.out];exact hop));clear hop
          go_upto_region 15 with (first
           | (go_at_call 163;(with_reducible refine (FI.out _ (KC.out.t.g x hx)).mono ?_);rintro e w5 ⟨rfl,hb5⟩;have S5:=aa (KC.out.later hb5))
           | (go_at_call 164;(with_reducible refine (CN.out _ (S5.out.t.g x hx)).mono ?_);rintro e w6 ⟨rfl,hb6⟩;have S6:=aa (S5.out.later hb6)))
          obtain ⟨f0,f1⟩:=bg S6.out.f;obtain ⟨a0,a1⟩:=bg S6.out.a;have z0:=S6.out.r0.lt;have z1:=S6.out.r1.lt;have z2:=S6.out.a.lt;have z3:=S6.out.f.lt;have n0:=λj=>S6.out.r0.frozen j;have n1':=λj=>S6.out.r1.frozen j;obtain ⟨q0,q1⟩:=bg S6.out.r0;obtain ⟨q2,q3⟩:=bg S6.out.r1;refine ag (λb=>b=b0\/b=b0+1) #[⟨0,0,2^70,256,1⟩,⟨0,0,2^71,512,1⟩,⟨1,1,0,(2^6+2^70),2⟩,⟨7,7,0,(2^7+2^71),3⟩] 3 [(0,1),(1,1),(2,2),(3,3)] (by kernel_rfl) (by kernel_rfl) (by kernel_rfl) (by kernel_rfl) (by kernel_rfl) (by kernel_rfl) (λc a d v w h=>by cases d <;> exact h) ?_;refine jR [_,_] Tryz.underlying183 ?_
          try refine aC ?_
          refine jR [_,_] Tryz.underlying183 ?_
          try refine aC ?_
          refine iK λK hK=>?_;go_wp2_with (fail);refine iX hK (h:=?_);clear hK K
          try refine aC ?_
          refine fA λK hK=>?_;go_wp2_with (fail);refine hK.out _ _ ?_;clear hK K
          try refine aC ?_
          refine aD ?_;go_wp2;refine aJ (λWf hWf=>?_);have hR0:af Wf b0 183 #[.int .i64 (-1),.int .i64 (-1)]:=by rw [hWf];exact af.drew ((((S6.out.r0.set 0 _).set 1 _).other (by omega) _ _).other (by omega) _ _)
          have hR1:af Wf (b0+1) 183 #[.int .i64 (T.EZ h (T.fJ h (i+1))),.int .i64 (T.Cj h (T.fJ h (i+1)))]:=by rw [hWf];exact af.drew ((((S6.out.r1.other (by omega) _ _).other (by omega) _ _).set 0 _).set 1 _)
          have hC:ah (λb=>b=b0\/b=b0+1) w6 Wf:=by rw [hWf];exact (((((ah.refl _ _).setCell (.inl (.inl rfl)) _).setCell (.inl (.inl rfl)) _).setCell (.inl (.inr rfl)) _).setCell (.inl (.inr rfl)) _).drew
          obtain ⟨x0,x1⟩:=bg hR0;obtain ⟨y0,y1⟩:=bg hR1;obtain ⟨hl1,hl2,hl3,hl4⟩:=TA.out;rw [hl1,hl2,hl3,hl4]
          exact bodyPost_ret (v := .tuple #[.agg #[.int .i64 (-1),.int .i64 (-1)],.agg #[.int .i64 (T.EZ h (T.fJ h (i+1))),.int .i64 (T.Cj h (T.fJ h (i+1)))]]) (by simp [results,Tryz.results121,go_sem,x0,x1,y0,y1]) rfl
           ⟨by rfl,S6.out.t.aA hC (λb h1 h2=>by rintro (e|e) <;> omega),S6.out.c.trans' hC (λb hb e=>by have:=HB0.out;rcases e with e|e <;> omega)⟩
         | false =>
          rw [hop] at o1;have HST:=aa (Jh (T:=T) (key:=key) (h:=h) (g:=T.wk h i) (by rw [HHT.out];exact Ls) (by rw [<-HX.out];exact hop));clear hop
          go_wp2_with (first
           | (go_at_call 163;(with_reducible refine (FI.out _ (KC.out.t.g x hx)).mono ?_);rintro e w5 ⟨rfl,hb5⟩;have S5:=aa (KC.out.later hb5))
           | (go_at_call 164;(with_reducible refine (CN.out _ (S5.out.t.g x hx)).mono ?_);rintro e w6 ⟨rfl,hb6⟩;have S6:=aa (S5.out.later hb6)))
          go_roundw
          case rel=>exact ⟨i+1,by omega,by go_num,S6.out,λj hj=>by
           by_cases e:j=i
           . subst e;exact HST.out
           . exact KM.out j (by omega)⟩
          case measure=>simp [intOf];omega
    . have hnew:=agM (T:=T) (h:=h) (i:=i) (by rw [<-HZ.out];omega);have HN:=aa hnew;have hz1:z<0:=by omega
      clear hnew f0 f1;go_upto_region 10 with (fail)
      refine bG (λw4 hw4=>?_)
      have KC:=aa (show DWh w4 lo hi D P cap GB T (L+((i+1:Nat):Int)) b0 h (i+1) (T.fJ h (i+1)) (.slice (some ⟨b,off,none⟩) T.n RU) pG w by
       rw [hw4,HN.out]
       exact ⟨S3.out.t,S3.out.r0,S3.out.r1,S3.out.a,S3.out.f,S3.out.l,S3.out.c⟩)
      replace hw4:=aa hw4;clear S3 HN zf ff hz0 hz1;have zG4:=(KC.out.t.g x hx).lt;have FI:=aa (λ(w':World) (hd:DW w' (GB x) (T.M x) (T.S x))=>Cn (GB x) (T.M x) h (T.S x) key (HGD.out x hx) hh w' hd);rw [<-Ff (HGD.out x hx)] at FI;have HHT:Hid (T.hit key h (T.wk h i)=eP (T.S x) key (aI (aU (T.M x) (h % 128)))):=aa (by rw [<-HX.out];rfl);generalize eP (T.S x) key (aI (aU (T.M x) (h % 128)))=zf at *
      by_cases hzf:0<=zf
      . go_upto_region 12 with (go_at_call 163;(with_reducible refine (FI.out _ (KC.out.t.g x hx)).mono ?_);rintro e w5 ⟨rfl,hb5⟩;have S5:=aa (KC.out.later hb5))
        have TA:=aa (BM hlt KM.out HHT.out hzf);obtain ⟨f0,f1⟩:=bg S5.out.f;obtain ⟨a0,a1⟩:=bg S5.out.a;have z0:=S5.out.r0.lt;have z1:=S5.out.r1.lt;have z2:=S5.out.a.lt;have z3:=S5.out.f.lt;have n0:=λj=>S5.out.r0.frozen j;have n1':=λj=>S5.out.r1.frozen j;obtain ⟨q0,q1⟩:=bg S5.out.r0;obtain ⟨q2,q3⟩:=bg S5.out.r1;refine ag (λb=>b=b0\/b=b0+1) #[⟨0,0,2^62,2048,0⟩,⟨0,0,2^63,2^14,0⟩,⟨3,3,2^64,(2^62+2^63),0⟩,⟨0,0,2^65,512,1⟩,⟨7,7,0,(2^6+2^64),2⟩,⟨31,31,0,(2^7+2^65),3⟩] 8 [(0,0),(1,0),(2,0),(3,1),(4,2),(5,3)] (by kernel_rfl) (by kernel_rfl) (by kernel_rfl) (by kernel_rfl) (by kernel_rfl) (by kernel_rfl) (λc a d v w h=>by cases d <;> exact h) ?_;refine aj ?_;refine aj ?_;refine aj ?_;refine jR [_,_] Tryz.underlying183 ?_
        try refine aC ?_
        refine iK λK hK=>?_;go_wp2_with (fail);refine iX hK (h:=?_);clear hK K
        try refine aC ?_
        refine fA λK hK=>?_;go_wp2_with (fail);refine hK.out _ _ ?_;clear hK K
        try refine aC ?_
        refine aD ?_;go_wp2;refine aJ (λWf hWf=>?_);have hR0:af Wf b0 183 #[.int .i64 ((x:Int)),.int .i64 (zf)]:=by rw [hWf];exact af.drew ((((S5.out.r0.set 0 _).set 1 _).other (by omega) _ _).other (by omega) _ _)
        have hR1:af Wf (b0+1) 183 #[.int .i64 (T.EZ h (T.fJ h (i+1))),.int .i64 (T.Cj h (T.fJ h (i+1)))]:=by rw [hWf];exact af.drew ((((S5.out.r1.other (by omega) _ _).other (by omega) _ _).set 0 _).set 1 _)
        have hC:ah (λb=>b=b0\/b=b0+1) w5 Wf:=by rw [hWf];exact (((((ah.refl _ _).setCell (.inl (.inl rfl)) _).setCell (.inl (.inl rfl)) _).setCell (.inl (.inr rfl)) _).setCell (.inl (.inr rfl)) _).drew
        obtain ⟨x0,x1⟩:=bg hR0;obtain ⟨y0,y1⟩:=bg hR1;obtain ⟨hl1,hl2,hl3,hl4⟩:=TA.out;rw [hl1,hl2,hl3,hl4]
        exact bodyPost_ret (v := .tuple #[.agg #[.int .i64 ((x:Int)),.int .i64 (zf)],.agg #[.int .i64 (T.EZ h (T.fJ h (i+1))),.int .i64 (T.Cj h (T.fJ h (i+1)))]]) (by simp [results,Tryz.results121,go_sem,x0,x1,y0,y1]) rfl
         ⟨by rw [<-HX.out],S5.out.t.aA hC (λb h1 h2=>by rintro (e|e) <;> omega),S5.out.c.trans' hC (λb hb e=>by have:=HB0.out;rcases e with e|e <;> omega)⟩
      . have Ls:zf<0:=by omega
        have CN:=aa (λ(w':World) (h:DW w' (GB x) (T.M x) (T.S x))=>kC (GB x) (T.M x) 1 (T.S x) w' h);simp only [show ((1:Nat):Int)=1 from rfl] at CN;have o1:decide (((aV (T.M x) 1:Nat):Int) > 0)=bR (T.M x):=by rw [ko,Bool.eq_iff_iff];simp
        generalize ((aV (T.M x) 1:Nat):Int)=n1 at CN o1;cases hop:bR (T.M x) with
        | true =>
         rw [hop] at o1;have TA:=aa (rP hlt KM.out (by rw [HHT.out];exact Ls) (by rw [<-HX.out];exact hop));clear hop
         go_upto_region 15 with (first
          | (go_at_call 163;(with_reducible refine (FI.out _ (KC.out.t.g x hx)).mono ?_);rintro e w5 ⟨rfl,hb5⟩;have S5:=aa (KC.out.later hb5))
          | (go_at_call 164;(with_reducible refine (CN.out _ (S5.out.t.g x hx)).mono ?_);rintro e w6 ⟨rfl,hb6⟩;have S6:=aa (S5.out.later hb6)))
         obtain ⟨f0,f1⟩:=bg S6.out.f;obtain ⟨a0,a1⟩:=bg S6.out.a;have z0:=S6.out.r0.lt;have z1:=S6.out.r1.lt;have z2:=S6.out.a.lt;have z3:=S6.out.f.lt;have n0:=λj=>S6.out.r0.frozen j;have n1':=λj=>S6.out.r1.frozen j;obtain ⟨q0,q1⟩:=bg S6.out.r0;obtain ⟨q2,q3⟩:=bg S6.out.r1;refine ag (λb=>b=b0\/b=b0+1) #[⟨0,0,2^70,256,1⟩,⟨0,0,2^71,512,1⟩,⟨1,1,0,(2^6+2^70),2⟩,⟨7,7,0,(2^7+2^71),3⟩] 3 [(0,1),(1,1),(2,2),(3,3)] (by kernel_rfl) (by kernel_rfl) (by kernel_rfl) (by kernel_rfl) (by kernel_rfl) (by kernel_rfl) (λc a d v w h=>by cases d <;> exact h) ?_;refine jR [_,_] Tryz.underlying183 ?_
         try refine aC ?_
         refine jR [_,_] Tryz.underlying183 ?_
         try refine aC ?_
         refine iK λK hK=>?_;go_wp2_with (fail);refine iX hK (h:=?_);clear hK K
         try refine aC ?_
         refine fA λK hK=>?_;go_wp2_with (fail);refine hK.out _ _ ?_;clear hK K
         try refine aC ?_
         refine aD ?_;go_wp2;refine aJ (λWf hWf=>?_);have hR0:af Wf b0 183 #[.int .i64 (-1),.int .i64 (-1)]:=by rw [hWf];exact af.drew ((((S6.out.r0.set 0 _).set 1 _).other (by omega) _ _).other (by omega) _ _)
         have hR1:af Wf (b0+1) 183 #[.int .i64 (T.EZ h (T.fJ h (i+1))),.int .i64 (T.Cj h (T.fJ h (i+1)))]:=by rw [hWf];exact af.drew ((((S6.out.r1.other (by omega) _ _).other (by omega) _ _).set 0 _).set 1 _)
         have hC:ah (λb=>b=b0\/b=b0+1) w6 Wf:=by rw [hWf];exact (((((ah.refl _ _).setCell (.inl (.inl rfl)) _).setCell (.inl (.inl rfl)) _).setCell (.inl (.inr rfl)) _).setCell (.inl (.inr rfl)) _).drew
         obtain ⟨x0,x1⟩:=bg hR0;obtain ⟨y0,y1⟩:=bg hR1;obtain ⟨hl1,hl2,hl3,hl4⟩:=TA.out;rw [hl1,hl2,hl3,hl4]
         exact bodyPost_ret (v := .tuple #[.agg #[.int .i64 (-1),.int .i64 (-1)],.agg #[.int .i64 (T.EZ h (T.fJ h (i+1))),.int .i64 (T.Cj h (T.fJ h (i+1)))]]) (by simp [results,Tryz.results121,go_sem,x0,x1,y0,y1]) rfl
          ⟨by rfl,S6.out.t.aA hC (λb h1 h2=>by rintro (e|e) <;> omega),S6.out.c.trans' hC (λb hb e=>by have:=HB0.out;rcases e with e|e <;> omega)⟩
        | false =>
         rw [hop] at o1;have HST:=aa (Jh (T:=T) (key:=key) (h:=h) (g:=T.wk h i) (by rw [HHT.out];exact Ls) (by rw [<-HX.out];exact hop));clear hop
         go_wp2_with (first
          | (go_at_call 163;(with_reducible refine (FI.out _ (KC.out.t.g x hx)).mono ?_);rintro e w5 ⟨rfl,hb5⟩;have S5:=aa (KC.out.later hb5))
          | (go_at_call 164;(with_reducible refine (CN.out _ (S5.out.t.g x hx)).mono ?_);rintro e w6 ⟨rfl,hb6⟩;have S6:=aa (S5.out.later hb6)))
         go_roundw
         case rel=>exact ⟨i+1,by omega,by go_num,S6.out,λj hj=>by
          by_cases e:j=i
          . subst e;exact HST.out
          . exact KM.out j (by omega)⟩
         case measure=>simp [intOf];omega
  . obtain rfl:i=T.n:=by omega
    have TA:=aa (Ro (by omega) KM.out);have HX:=aa (rfl:T.wk h 0=T.wk h 0);go_upto_region 15 with (fail)
    obtain ⟨f0,f1⟩:=bg KS.out.f;obtain ⟨a0,a1⟩:=bg KS.out.a;have z0:=KS.out.r0.lt;have z1:=KS.out.r1.lt;have z2:=KS.out.a.lt;have z3:=KS.out.f.lt;have n0:=λj=>KS.out.r0.frozen j;have n1':=λj=>KS.out.r1.frozen j;obtain ⟨q0,q1⟩:=bg KS.out.r0;obtain ⟨q2,q3⟩:=bg KS.out.r1;refine ag (λb=>b=b0\/b=b0+1) #[⟨0,0,2^70,256,1⟩,⟨0,0,2^71,512,1⟩,⟨1,1,0,(2^6+2^70),2⟩,⟨7,7,0,(2^7+2^71),3⟩] 3 [(0,1),(1,1),(2,2),(3,3)] (by kernel_rfl) (by kernel_rfl) (by kernel_rfl) (by kernel_rfl) (by kernel_rfl) (by kernel_rfl) (λc a d v w h=>by cases d <;> exact h) ?_;refine jR [_,_] Tryz.underlying183 ?_
    try refine aC ?_
    refine jR [_,_] Tryz.underlying183 ?_
    try refine aC ?_
    refine iK λK hK=>?_;go_wp2_with (fail);refine iX hK (h:=?_);clear hK K
    try refine aC ?_
    refine fA λK hK=>?_;go_wp2_with (fail);refine hK.out _ _ ?_;clear hK K
    try refine aC ?_
    refine aD ?_;go_wp2;refine aJ (λWf hWf=>?_);have hR0:af Wf b0 183 #[.int .i64 (-1),.int .i64 (-1)]:=by rw [hWf];exact af.drew ((((KS.out.r0.set 0 _).set 1 _).other (by omega) _ _).other (by omega) _ _)
    have hR1:af Wf (b0+1) 183 #[.int .i64 (T.EZ h (T.fJ h T.n)),.int .i64 (T.Cj h (T.fJ h T.n))]:=by rw [hWf];exact af.drew ((((KS.out.r1.other (by omega) _ _).other (by omega) _ _).set 0 _).set 1 _)
    have hC:ah (λb=>b=b0\/b=b0+1) wr Wf:=by rw [hWf];exact (((((ah.refl _ _).setCell (.inl (.inl rfl)) _).setCell (.inl (.inl rfl)) _).setCell (.inl (.inr rfl)) _).setCell (.inl (.inr rfl)) _).drew
    obtain ⟨x0,x1⟩:=bg hR0;obtain ⟨y0,y1⟩:=bg hR1;obtain ⟨hl1,hl2,hl3,hl4⟩:=TA.out;rw [hl1,hl2,hl3,hl4]
    exact bodyPost_ret (v := .tuple #[.agg #[.int .i64 (-1),.int .i64 (-1)],.agg #[.int .i64 (T.EZ h (T.fJ h T.n)),.int .i64 (T.Cj h (T.fJ h T.n))]]) (by simp [results,Tryz.results121,go_sem,x0,x1,y0,y1]) rfl
     ⟨by rfl,KS.out.t.aA hC (λb h1 h2=>by rintro (e|e) <;> omega),KS.out.c.trans' hC (λb hb e=>by have:=HB0.out;rcases e with e|e <;> omega)⟩
section
variable {w:World} {lo hi D P cap:Nat} {GB:Nat->Nat} {T:ae} {L:Int}
theorem Oz (hd:DT w lo hi D P cap GB T L) (hL:0<=L/\L<=1000000000) (key:Int) (h:Nat) (hh:h<18446744073709551616) :
 Calls Tryz.prog 64 #[.pointer (some ⟨D,0,none⟩),.int .u64 key,.int .u64 (h:Int)] w λe w' =>
  e = .returned (.tuple #[.agg #[.int .u64 (T.bA key h).key,.int .u64 (T.bA key h).val,.int .u64 (T.bA key h).hash],.bool (T.has key h)])/\DT w' lo hi D P cap GB T (L+T.looks key h)/\ah (λb=>b=D) w w':=by
 have WH:=aa (λ(w':World) (h':DT w' lo hi D P cap GB T L)=>qc h' hL key h hh);have HD:=aa hd;have hhi:=hd.hz;obtain ⟨b0,hb0⟩:=dC w.heap.size;cases hhas:T.has key h with
 | false =>
  have e1:T.J4 key h = -1:=by unfold ae.J4;rw [hhas];rfl
  have e2:T.bA key h=ai.zero:=bU.eu hhas;rw [e1] at WH;rw [e2];simp only [ai.zero];generalize T.MW key h=ak at *
  generalize T.EZ h (T.gU key h)=fg at *
  generalize T.Cj h (T.gU key h)=fk at *
  have zD:=hd.head.lt;clear hd hhas e1 e2 hb0;go_enter Tryz.func64,Tryz.ntmps64
  go_wp2_with (go_at_call 121;(with_reducible refine (WH.out _ (HD.out.alloc _)).mono ?_);rintro e w1 ⟨rfl,hd1,hc1⟩;have D1:=aa hd1;have C1:=aa hc1;have E1:=aa ((af.new w 46 #[.int .u64 0,.int .u64 0,.int .u64 0]).aA hc1 (by omega));obtain ⟨e0,e1,e2⟩:=cells3 E1.out;have zE:=E1.out.lt;have fE:=λj=>E1.out.frozen j;clear hd1 hc1)
  refine aJ (λWf hWf=>?_);have hC:ah (λb=>b=w.heap.size) w1 Wf:=by rw [hWf];exact (((((ah.refl _ _).set1 _ _).set1 _ _).set1 _ _).alloc _).alloc _
  have hR:af Wf w.heap.size 46 #[.int .u64 0,.int .u64 0,.int .u64 0]:=by rw [hWf];exact ((((E1.out.set 0 _).set 1 _).set 2 _).alloc _).alloc _
  obtain ⟨r0,r1,r2⟩:=cells3 hR
  exact bodyPost_ret (v := .tuple #[.agg #[.int .u64 0,.int .u64 0,.int .u64 0],.bool false]) (by simp [results,Tryz.results64,go_sem,r0,r1,r2]) rfl
   ⟨rfl,D1.out.aA hC (λb h1 h2=>by omega),((ah.of_below (show Below w.heap.size w _ by go_grown)).trans C1.out).trans' hC (λb hb e=>by omega)⟩
 | true =>
  obtain ⟨k,hz,hk,hg,-⟩:=hd.good.at' hhas;have e1:T.J4 key h=((T.bn key h:Nat):Int):=by unfold ae.J4;rw [if_pos hhas]
  have e2:T.MW key h=(k:Int):=by unfold ae.MW;rw [if_pos hhas,hz]
  have e3:T.bA key h=T.S (T.bn key h) k:=by unfold ae.bA;rw [hz,if_pos (by omega),Int.toNat_natCast]
  rw [e1,e2] at WH;rw [e3];generalize T.bn key h=x at *
  generalize T.EZ h (T.gU key h)=fg at *
  generalize T.Cj h (T.gU key h)=fk at *
  have zD:=hd.head.lt;have eQ:(k:Int)<8:=by omega
  have hxI:(x:Int)<(T.n:Int):=by omega
  clear hd hhas e1 e2 e3 hz hb0;go_enter Tryz.func64,Tryz.ntmps64
  go_upto_region 4 with (go_at_call 121;(with_reducible refine (WH.out _ (HD.out.alloc _)).mono ?_);rintro e w1 ⟨rfl,hd1,hc1⟩;have D1:=aa hd1;have C1:=aa hc1;have E1:=aa ((af.new w 46 #[.int .u64 0,.int .u64 0,.int .u64 0]).aA hc1 (by omega));clear hd1 hc1)
  refine bG (λw2 hw2=>?_);have hB2:Below w1.heap.size w1 w2:=by rw [hw2];go_grown
  have D2:=aa (D1.out.later hB2);have E2:=aa (E1.out.below hB2 E1.out.lt);have C2:=aa (((ah.of_below (show Below w.heap.size w _ by go_grown)).trans C1.out).au hB2);have A2:=aa (show af w2 w1.heap.size 183 #[.int .i64 (x:Int),.int .i64 (k:Int)] by rw [hw2];exact (af.new _ _ _).alloc _);obtain ⟨e0,e1,e2⟩:=cells3 E2.out;have zE:=E2.out.lt;have fE:=λj=>E2.out.frozen j;obtain ⟨a0,a1⟩:=bg A2.out;have zA:=A2.out.lt;obtain ⟨d0,-,TL,-⟩:=il D2.out;have p0:=D2.out.ptr x hg;have zP:=D2.out.pz;obtain ⟨-,g1,g2,g3⟩:=(D2.out.g x hg).cells k hk;have zG:=(D2.out.g x hg).lt;have hzw:w.heap.size<=w1.heap.size:=by have:=C1.out.size;simp at this;omega
  have hGE:GB x≠w.heap.size:=by have:=(D2.out.ig x hg).2;omega
  have hPE:P≠w.heap.size:=by have:=D2.out.ip.2;omega
  have hAE:w1.heap.size≠w.heap.size:=by have:=E1.out.lt;omega
  have hDE:D≠w.heap.size:=by omega
  replace hw2:=aa hw2;clear hB2 E1 C1 D1;refine ag (λb=>b=w.heap.size) #[⟨0,0,2^21,1,0⟩,⟨1,1,2^22,2^21,0⟩,⟨2,3,2^23,2^22,0⟩,⟨4,7,2^24,2^23,1⟩,⟨0,0,2^25,256,0⟩,⟨16,16,2^26,2^25,1⟩,⟨40,63,2^27,(2^24+2^26),0⟩,⟨64,127,2^28,2^27,1⟩,⟨0,0,2^29,256,0⟩,⟨256,256,2^30,2^29,1⟩,⟨128,255,2^31,2^28,0⟩,⟨1024,1279,2^32,2^31,0⟩,⟨2560,4095,2^33,(2^30+2^32),0⟩,⟨4096,8191,2^34,2^33,0⟩,⟨8192,16383,2^35,2^34,1⟩,⟨32767,32767,0,(2^6+2^35),3⟩,⟨65535,65535,128,0,0⟩] 17064 [(0,0),(1,0),(2,0),(3,1),(4,0),(5,1),(6,0),(7,1),(8,0),(9,1),(10,0),(11,0),(12,0),(13,0),(14,1),(15,3),(16,0)] (by kernel_rfl) (by kernel_rfl) (by kernel_rfl) (by kernel_rfl) (by kernel_rfl) (by kernel_rfl) (λc a d v w h=>by cases d <;> exact h) ?_;refine aj ?_;refine aj ?_;refine aj ?_;refine bW Tryz.underlying128 ?_
  try refine aC ?_;refine aj ?_
  refine bW Tryz.underlying3 ?_
  try refine aC ?_;refine aj ?_
  refine bW Tryz.underlying172 ?_
  try refine aC ?_;refine aj ?_
  refine bW Tryz.underlying3 ?_
  try refine aC ?_;refine aj ?_;refine aj ?_;refine aj ?_;refine aj ?_
  refine jR [_,_,_] Tryz.underlying46 ?_
  try refine aC ?_
  refine fA λK hK=>?_;go_wp2_with (fail);refine hK.out _ _ ?_;clear hK K
  try refine aC ?_;refine aj ?_
  refine aD ?_;go_wp2;refine aJ (λWf hWf=>?_);have hC:ah (λb=>b=w.heap.size) w2 Wf:=by rw [hWf];exact ((((ah.refl _ _).set1 _ _).set1 _ _).set1 _ _).drew
  have hR:af Wf w.heap.size 46 #[.int .u64 (T.S x k).key,.int .u64 (T.S x k).val,.int .u64 (T.S x k).hash]:=by rw [hWf];exact af.drew (((E2.out.set 0 _).set 1 _).set 2 _)
  obtain ⟨r0,r1,r2⟩:=cells3 hR
  exact bodyPost_ret (v := .tuple #[.agg #[.int .u64 (T.S x k).key,.int .u64 (T.S x k).val,.int .u64 (T.S x k).hash],.bool true]) (by simp [results,Tryz.results64,go_sem,r0,r1,r2]) rfl
   ⟨rfl,D2.out.aA hC (λb h1 h2=>by omega),C2.out.trans' hC (λb hb e=>by omega)⟩
theorem Tm (hd:DT w lo hi D P cap GB T L) (hL:0<=L/\L<=1000000000) (key v:Int) (h:Nat) (hh:h<18446744073709551616) :
 Calls Tryz.prog 65 #[.pointer (some ⟨D,0,none⟩),.agg #[.int .u64 key,.int .u64 v,.int .u64 (h:Int)]] w λe w' =>
  e = .returned (.tuple #[.bool (T.bB key h),.int .i64 ((T.bN key h:Nat):Int)])/\DT w' lo hi D P cap GB (T.aR key v h) (L+T.looks key h)/\ah (λb=>lo<=b/\b<hi) w w':=by
 have WH:=aa (λ(w':World) (h':DT w' lo hi D P cap GB T L)=>qc h' hL key h hh);have HD:=aa hd;have hhi:=hd.hz;have zD:=hd.head.lt;have HGD:=aa hd.good;cases hhas:T.has key h with
 | true =>
  obtain ⟨k,hz,hk,hg,hfl,-⟩:=hd.good.at' hhas;have e1:T.J4 key h=((T.bn key h:Nat):Int):=by unfold ae.J4;rw [if_pos hhas]
  have e2:T.MW key h=(k:Int):=by unfold ae.MW;rw [if_pos hhas,hz]
  have e3:T.aR key v h=T.pq (T.bn key h) k v:=by unfold ae.aR;rw [if_pos hhas,hz,Int.toNat_natCast]
  have e4:T.bB key h=false:=by unfold ae.bB;rw [hhas];rfl
  have e5:T.bN key h=0:=by unfold ae.bN;rw [if_pos (.inl hhas)]
  rw [e1,e2] at WH;rw [e3,e4,e5];have ST:=aa (λ(w':World) (h':DW w' (GB (T.bn key h)) (T.M (T.bn key h)) (T.S (T.bn key h)))=>ab9 (GB (T.bn key h)) (T.M (T.bn key h)) k (T.S (T.bn key h)) v hk hfl w' h');generalize T.bn key h=x at *
  generalize T.EZ h (T.gU key h)=fg at *
  generalize T.Cj h (T.gU key h)=fk at *
  have hxI:(x:Int)<(T.n:Int):=by omega
  have eQ:(k:Int)<8:=by omega
  clear hd hhas e1 e2 e3 e4 e5 hz hfl;go_enter Tryz.func65,Tryz.ntmps65
  go_upto_region 3 with (go_at_call 121;(with_reducible refine (WH.out _ (HD.out.alloc _)).mono ?_);rintro e w1 ⟨rfl,hd1,hc1⟩;have D1:=aa hd1;have C1:=aa hc1;have E1:=aa ((af.new w 46 #[.int .u64 key,.int .u64 v,.int .u64 (h:Int)]).aA hc1 (by omega));have q1:=cells3 E1.out;have QE:=q1.1;have KI:=q1.2.1;have q12:=q1.2.2;clear q1;have zE1:=E1.out.lt;clear hd1 hc1)
  refine bG (λw2 hw2=>?_);have hB2:Below w1.heap.size w1 w2:=by rw [hw2];go_grown
  have D2:=aa (D1.out.later hB2);have E2:=aa (E1.out.below hB2 E1.out.lt);have C2:=aa (((ah.of_below (show Below w.heap.size w _ by go_grown)).trans C1.out).au hB2);have A2:=aa (show af w2 w1.heap.size 183 #[.int .i64 ((x:Int)),.int .i64 ((k:Int))] by rw [hw2];exact (af.new _ _ _).alloc _);have F2:=aa (show af w2 (w1.heap.size+1) 183 #[.int .i64 (fg),.int .i64 (fk)] by rw [hw2];exact af.aF (by simp));obtain ⟨e0,e1,e2⟩:=cells3 E2.out;have zE:=E2.out.lt;obtain ⟨a0,a1⟩:=bg A2.out;have zA:=A2.out.lt;obtain ⟨b0,b1⟩:=bg F2.out;have zF:=F2.out.lt;obtain ⟨d0,-,TL,-⟩:=il D2.out;have zP:=D2.out.pz;have JJ:=D2.out.id;replace hw2:=aa hw2;clear hB2 E1 C1 D1;have p0:=D2.out.ptr x hg;have Dj:=(D2.out.ig x hg)
  refine ag (λ_=>False) #[⟨0,0,2^20,1,0⟩,⟨1,1,2^21,2^20,0⟩,⟨2,3,2^22,2^21,0⟩,⟨4,7,2^23,2^22,1⟩,⟨0,0,2^24,64,0⟩,⟨16,16,2^25,2^24,1⟩,⟨40,63,2^26,(2^23+2^25),0⟩,⟨64,127,2^27,2^26,1⟩,⟨0,0,2^28,64,0⟩,⟨256,256,2^29,2^28,1⟩,⟨0,0,2^30,8,0⟩,⟨1024,1024,2^31,2^30,1⟩,⟨2688,4095,2^32,(2^27+2^29+2^31),3⟩] 2728 [(0,0),(1,0),(2,0),(3,1),(4,0),(5,1),(6,0),(7,1),(8,0),(9,1),(10,0),(11,1),(12,3)] (by kernel_rfl) (by kernel_rfl) (by kernel_rfl) (by kernel_rfl) (by kernel_rfl) (by kernel_rfl) (λc a d v w h=>by cases d <;> exact h) ?_;refine aj ?_;refine aj ?_;refine aj ?_;refine bW Tryz.underlying128 ?_
  try refine aC ?_;refine aj ?_
  refine bW Tryz.underlying3 ?_
  try refine aC ?_;refine aj ?_
  refine bW Tryz.underlying172 ?_
  try refine aC ?_;refine aj ?_
  refine bW Tryz.underlying3 ?_
  try refine aC ?_;refine aj ?_
  refine bW Tryz.underlying38 ?_
  try refine aC ?_
  refine fA λK hK=>?_;go_wp2_with (go_at_call 122;((with_reducible refine (ST.out _ (D2.out.drew.g x hg)).mono ?_);rintro e w3 ⟨rfl,hg3,hc3⟩;have D3:=aa (D2.out.drew.group hg (T':=T.pq x k v) rfl (by rw [show (T.pq x k v).S x=eY (T.S x) k { T.S x k with val:=v} from upd_same _ _ _];exact hg3) hc3 (λj hj=>⟨rfl,ay _ _ hj⟩) (HGD.out.pq hg v));have C3:=aa (show ah (λb=>lo<=b/\b<hi) w w3 from (C2.out.drew.mono (λb _ e=>by subst e;exact JJ)).trans (hc3.mono (λb _ e=>by subst e;exact Dj)));clear hg3));refine hK.out _ _ ?_;clear hK K
  try refine aC ?_
  refine aD ?_;go_wp2;go_ret2;exact ⟨rfl,D3.out,C3.out⟩
 | false =>
  have e1:T.J4 key h = -1:=by unfold ae.J4;rw [hhas];rfl
  have LF:=aa (λ(w':World) (h':DT w' lo hi D P cap GB T (L+T.looks key h))=>Oy h');rw [e1] at WH;generalize T.MW key h=ak at *
  cases hfr:T.gU key h with
  | none =>
   have hrm:T.room key h=false:=by unfold ae.room;rw [Oi,hfr];simp [ae.Cj]
   have e3:T.aR key v h=T:=by unfold ae.aR;rw [hhas,hrm];rfl
   have e4:T.bB key h=false:=by unfold ae.bB;rw [hrm,Bool.and_false]
   have e5:T.bN key h=2:=by unfold ae.bN;rw [hhas,hrm];rfl
   rw [hfr,(LZ T h).1] at WH;generalize T.Cj h none=fk at *
   rw [e3,e4,e5];have JJ:=hd.id;generalize T.left=left at *
   clear hd hhas e1 e3 e4 e5 hrm hfr;by_cases hl:left<1
   . go_enter Tryz.func65,Tryz.ntmps65
     go_upto_region 5 with (go_at_call 121;(with_reducible refine (WH.out _ (HD.out.alloc _)).mono ?_);rintro e w1 ⟨rfl,hd1,hc1⟩;have D1:=aa hd1;have C1:=aa hc1;have E1:=aa ((af.new w 46 #[.int .u64 key,.int .u64 v,.int .u64 (h:Int)]).aA hc1 (by omega));have q1:=cells3 E1.out;have QE:=q1.1;have KI:=q1.2.1;have q12:=q1.2.2;clear q1;have zE1:=E1.out.lt;clear hd1 hc1)
     refine bG (λw2 hw2=>?_);have hB2:Below w1.heap.size w1 w2:=by rw [hw2];go_grown
     have D2:=aa (D1.out.later hB2);have E2:=aa (E1.out.below hB2 E1.out.lt);have C2:=aa (((ah.of_below (show Below w.heap.size w _ by go_grown)).trans C1.out).au hB2);have A2:=aa (show af w2 w1.heap.size 183 #[.int .i64 (-1),.int .i64 (ak)] by rw [hw2];exact (af.new _ _ _).alloc _);have F2:=aa (show af w2 (w1.heap.size+1) 183 #[.int .i64 (-1),.int .i64 (fk)] by rw [hw2];exact af.aF (by simp));obtain ⟨e0,e1,e2⟩:=cells3 E2.out;have zE:=E2.out.lt;obtain ⟨a0,a1⟩:=bg A2.out;have zA:=A2.out.lt;obtain ⟨b0,b1⟩:=bg F2.out;have zF:=F2.out.lt;obtain ⟨d0,-,TL,-⟩:=il D2.out;have zP:=D2.out.pz;have JJ:=D2.out.id;replace hw2:=aa hw2;clear hB2 E1 C1 D1
     go_wp2_with (go_at_call 123;(with_reducible refine (LF.out _ D2.out).mono ?_);rintro e w3 ⟨rfl,hb3⟩)
     go_ret2;exact ⟨rfl,D2.out.later hb3,(C2.out.mono (λb _ e=>by subst e;exact JJ)).au hb3⟩
   . have hl1:1<=left:=by omega
     go_enter Tryz.func65,Tryz.ntmps65
     go_upto_region 5 with (go_at_call 121;(with_reducible refine (WH.out _ (HD.out.alloc _)).mono ?_);rintro e w1 ⟨rfl,hd1,hc1⟩;have D1:=aa hd1;have C1:=aa hc1;have E1:=aa ((af.new w 46 #[.int .u64 key,.int .u64 v,.int .u64 (h:Int)]).aA hc1 (by omega));have q1:=cells3 E1.out;have QE:=q1.1;have KI:=q1.2.1;have q12:=q1.2.2;clear q1;have zE1:=E1.out.lt;clear hd1 hc1)
     refine bG (λw2 hw2=>?_);have hB2:Below w1.heap.size w1 w2:=by rw [hw2];go_grown
     have D2:=aa (D1.out.later hB2);have E2:=aa (E1.out.below hB2 E1.out.lt);have C2:=aa (((ah.of_below (show Below w.heap.size w _ by go_grown)).trans C1.out).au hB2);have A2:=aa (show af w2 w1.heap.size 183 #[.int .i64 (-1),.int .i64 (ak)] by rw [hw2];exact (af.new _ _ _).alloc _);have F2:=aa (show af w2 (w1.heap.size+1) 183 #[.int .i64 (-1),.int .i64 (fk)] by rw [hw2];exact af.aF (by simp));obtain ⟨e0,e1,e2⟩:=cells3 E2.out;have zE:=E2.out.lt;obtain ⟨a0,a1⟩:=bg A2.out;have zA:=A2.out.lt;obtain ⟨b0,b1⟩:=bg F2.out;have zF:=F2.out.lt;obtain ⟨d0,-,TL,-⟩:=il D2.out;have zP:=D2.out.pz;have JJ:=D2.out.id;replace hw2:=aa hw2;clear hB2 E1 C1 D1
     go_wp2_with (go_at_call 123;(with_reducible refine (LF.out _ D2.out).mono ?_);rintro e w3 ⟨rfl,hb3⟩;have F3:=F2.out.below hb3 F2.out.lt;have b30:=F3.cell 0;have zF3:=F3.lt)
     go_ret2;exact ⟨rfl,D2.out.later hb3,(C2.out.mono (λb _ e=>by subst e;exact JJ)).au hb3⟩
  | some j =>
   have hz0:0<=T.jU key h:=by rw [Oi,hfr];exact (iF (show ja _ _=some j from hfr)).2.1
   obtain ⟨k,hz,hk,hg,hfl⟩:=hd.good.free' hz0;have QP:T.dM key h=T.wk h j:=by unfold ae.dM;rw [hfr]
   have hfK:T.Cj h (some j)=(k:Int):=by rw [<-hfr,<-Oi,hz]
   rw [hfr,(Bq T h j).1,hfK] at WH;rw [QP] at hg hfl;have hrm:T.room key h=decide (1<=T.left):=by unfold ae.room;rw [hz];simp
   by_cases hl:T.left<1
   . have JH:T.room key h=false:=by rw [hrm];simp;omega
     have e3:T.aR key v h=T:=by unfold ae.aR;rw [hhas,JH];rfl
     have e4:T.bB key h=false:=by unfold ae.bB;rw [JH,Bool.and_false]
     have e5:T.bN key h=2:=by unfold ae.bN;rw [hhas,JH];rfl
     rw [e3,e4,e5];have JJ:=hd.id;generalize T.wk h j=x at *
     generalize T.left=left at *
     clear hd hhas e1 e3 e4 e5 hrm JH hfr hz hz0 QP hfK hfl;go_enter Tryz.func65,Tryz.ntmps65
     go_upto_region 5 with (go_at_call 121;(with_reducible refine (WH.out _ (HD.out.alloc _)).mono ?_);rintro e w1 ⟨rfl,hd1,hc1⟩;have D1:=aa hd1;have C1:=aa hc1;have E1:=aa ((af.new w 46 #[.int .u64 key,.int .u64 v,.int .u64 (h:Int)]).aA hc1 (by omega));have q1:=cells3 E1.out;have QE:=q1.1;have KI:=q1.2.1;have q12:=q1.2.2;clear q1;have zE1:=E1.out.lt;clear hd1 hc1)
     refine bG (λw2 hw2=>?_);have hB2:Below w1.heap.size w1 w2:=by rw [hw2];go_grown
     have D2:=aa (D1.out.later hB2);have E2:=aa (E1.out.below hB2 E1.out.lt);have C2:=aa (((ah.of_below (show Below w.heap.size w _ by go_grown)).trans C1.out).au hB2);have A2:=aa (show af w2 w1.heap.size 183 #[.int .i64 (-1),.int .i64 (ak)] by rw [hw2];exact (af.new _ _ _).alloc _);have F2:=aa (show af w2 (w1.heap.size+1) 183 #[.int .i64 (x),.int .i64 (k)] by rw [hw2];exact af.aF (by simp));obtain ⟨e0,e1,e2⟩:=cells3 E2.out;have zE:=E2.out.lt;obtain ⟨a0,a1⟩:=bg A2.out;have zA:=A2.out.lt;obtain ⟨b0,b1⟩:=bg F2.out;have zF:=F2.out.lt;obtain ⟨d0,-,TL,-⟩:=il D2.out;have zP:=D2.out.pz;have JJ:=D2.out.id;replace hw2:=aa hw2;clear hB2 E1 C1 D1
     go_wp2_with (go_at_call 123;(with_reducible refine (LF.out _ D2.out).mono ?_);rintro e w3 ⟨rfl,hb3⟩)
     go_ret2;exact ⟨rfl,D2.out.later hb3,(C2.out.mono (λb _ e=>by subst e;exact JJ)).au hb3⟩
   . have hl1:1<=T.left:=by omega
     have JH:T.room key h=true:=by rw [hrm];simpa using hl1
     have e3:T.aR key v h=T.ins (T.wk h j) k ⟨key,v,h⟩ h:=by unfold ae.aR;rw [hhas,JH,hz,QP,Int.toNat_natCast];rfl
     have e4:T.bB key h=true:=by unfold ae.bB;rw [JH,hhas];rfl
     have e5:T.bN key h=0:=by unfold ae.bN;rw [if_pos (.inr JH)]
     rw [e3,e4,e5];have PT:=aa (λ(w':World) (h':DW w' (GB (T.wk h j)) (T.M (T.wk h j)) (T.S (T.wk h j)))=>aca (GB (T.wk h j)) (T.M (T.wk h j)) k h (T.S (T.wk h j)) key v hh hk hfl w' h');have HFL:=aa hfl;generalize T.wk h j=x at *
     have HLE:=aa hl1;obtain ⟨left,hle⟩:=dC T.left;rw [<-hle] at LF hl1;have hxI:(x:Int)<(T.n:Int):=by omega
     have eQ:(k:Int)<8:=by omega
     clear hd hhas e1 e3 e4 e5 hrm JH hfr hz hz0 QP hfK hfl hl hle;go_enter Tryz.func65,Tryz.ntmps65
     go_upto_region 5 with (go_at_call 121;(with_reducible refine (WH.out _ (HD.out.alloc _)).mono ?_);rintro e w1 ⟨rfl,hd1,hc1⟩;have D1:=aa hd1;have C1:=aa hc1;have E1:=aa ((af.new w 46 #[.int .u64 key,.int .u64 v,.int .u64 (h:Int)]).aA hc1 (by omega));have q1:=cells3 E1.out;have QE:=q1.1;have KI:=q1.2.1;have q12:=q1.2.2;clear q1;have zE1:=E1.out.lt;clear hd1 hc1)
     refine bG (λw2 hw2=>?_);have hB2:Below w1.heap.size w1 w2:=by rw [hw2];go_grown
     have D2:=aa (D1.out.later hB2);have E2:=aa (E1.out.below hB2 E1.out.lt);have C2:=aa (((ah.of_below (show Below w.heap.size w _ by go_grown)).trans C1.out).au hB2);have A2:=aa (show af w2 w1.heap.size 183 #[.int .i64 (-1),.int .i64 (ak)] by rw [hw2];exact (af.new _ _ _).alloc _);have F2:=aa (show af w2 (w1.heap.size+1) 183 #[.int .i64 ((x:Int)),.int .i64 ((k:Int))] by rw [hw2];exact af.aF (by simp));obtain ⟨e0,e1,e2⟩:=cells3 E2.out;have zE:=E2.out.lt;obtain ⟨a0,a1⟩:=bg A2.out;have zA:=A2.out.lt;obtain ⟨b0,b1⟩:=bg F2.out;have zF:=F2.out.lt;obtain ⟨d0,-,TL,-⟩:=il D2.out;have zP:=D2.out.pz;have JJ:=D2.out.id;replace hw2:=aa hw2;clear hB2 E1 C1 D1;go_upto_region 7 with (go_at_call 123;(with_reducible refine (LF.out _ D2.out).mono ?_);rintro e w3 ⟨rfl,hb3⟩;have D3:=aa (D2.out.later hb3);have E3:=aa (E2.out.below hb3 E2.out.lt);have F3:=aa (F2.out.below hb3 F2.out.lt);have C3:=aa (C2.out.au hb3);have b30:=F3.out.cell 0;have b31:=F3.out.cell 1;have zF3:=F3.out.lt;have e30:=E3.out.cell 0;have e31:=E3.out.cell 1;have e32:=E3.out.cell 2;have zE3:=E3.out.lt)
     obtain ⟨d30,-,zD3,-⟩:=il D3.out;have p0:=D3.out.ptr x hg;have zP3:=D3.out.pz;have Dj:=D3.out.ig x hg;refine ag (λ_=>False) #[⟨0,0,2^41,1,0⟩,⟨1,1,2^42,2^41,0⟩,⟨2,3,2^43,2^42,0⟩,⟨4,7,2^44,2^43,1⟩,⟨0,0,2^45,128,0⟩,⟨16,16,2^46,2^45,1⟩,⟨40,63,2^47,(2^44+2^46),0⟩,⟨64,127,2^48,2^47,1⟩,⟨0,0,2^49,128,0⟩,⟨256,256,2^50,2^49,1⟩,⟨0,0,2^51,8,1⟩,⟨1664,2047,2^52,(2^48+2^50+2^51),3⟩] 1704 [(0,0),(1,0),(2,0),(3,1),(4,0),(5,1),(6,0),(7,1),(8,0),(9,1),(10,1),(11,3)] (by kernel_rfl) (by kernel_rfl) (by kernel_rfl) (by kernel_rfl) (by kernel_rfl) (by kernel_rfl) (λc a d v w h=>by cases d <;> exact h) ?_;refine aj ?_;refine aj ?_;refine aj ?_;refine bW Tryz.underlying128 ?_
     try refine aC ?_;refine aj ?_
     refine bW Tryz.underlying3 ?_
     try refine aC ?_;refine aj ?_
     refine bW Tryz.underlying172 ?_
     try refine aC ?_;refine aj ?_
     refine bW Tryz.underlying3 ?_
     try refine aC ?_
     refine jR [_,_,_] Tryz.underlying46 ?_
     try refine aC ?_
     refine fA λK hK=>?_;go_wp2_with (go_at_call 124;((with_reducible refine (PT.out _ (D3.out.drew.g x hg)).mono ?_);rintro e w4 ⟨rfl,hg4,hc4⟩;have D4:=aa (D3.out.drew.group hg (T':=T.ins x k ⟨key,v,h⟩ h) rfl (by rw [show (T.ins x k ⟨key,v,h⟩ h).M x=fB (T.M x) k (h % 128) from upd_same _ _ _,show (T.ins x k ⟨key,v,h⟩ h).S x=eY (T.S x) k ⟨key,v,h⟩ from upd_same _ _ _];exact hg4) hc4 (λj hj=>⟨ay _ _ hj,ay _ _ hj⟩) (HGD.out.ins hg hk HFL.out key v hh));have C4:=aa (show ah (λb=>lo<=b/\b<hi) w w4 from (C3.out.drew.mono (λb _ e=>by subst e;exact JJ)).trans (hc4.mono (λb _ e=>by subst e;exact Dj)));clear hg4));refine hK.out _ _ ?_;clear hK K
     try refine aC ?_
     refine aD ?_;go_wp2;go_ret2;exact ⟨rfl,D4.out,C4.out⟩
end
section
variable {w:World} {lo hi D P cap:Nat} {GB:Nat->Nat} {T:ae} {L:Int}
theorem DT.era {w w':World} (h:DT w lo hi D P cap GB T L) {x k:Nat} (hx:x<T.n) (hk:k<8) (hf:cK (T.M x) (k:Int) true=0) (hg:DW w' (GB x) (fB (T.M x) k (dB (T.M x))) (eY (T.S x) k ai.zero)) (hc:ah (λb=>b=GB x) w w') :
 DT w' lo hi D P cap GB (T.era x k) L :=
 h.group hx (T':=T.era x k) rfl (by rw [show (T.era x k).M x=fB (T.M x) k (dB (T.M x)) from upd_same _ _ _,show (T.era x k).S x=eY (T.S x) k ai.zero from upd_same _ _ _];exact hg) hc (λj hj=>⟨ay _ _ hj,ay _ _ hj⟩) (h.good.era hx hk hf)
theorem Tn (hd:DT w lo hi D P cap GB T L) (hL:0<=L/\L<=1000000000) (key:Int) (h:Nat) (hh:h<18446744073709551616) :
 Calls Tryz.prog 67 #[.pointer (some ⟨D,0,none⟩),.int .u64 key,.int .u64 (h:Int)] w λe w' =>
  e = .returned (.tuple #[.agg #[.int .u64 (T.bA key h).key,.int .u64 (T.bA key h).val,.int .u64 (T.bA key h).hash],.bool (T.has key h)])/\DT w' lo hi D P cap GB (T.eB key h) (L+T.looks key h)/\ah (λb=>lo<=b/\b<hi) w w':=by
 have WH:=aa (λ(w':World) (h':DT w' lo hi D P cap GB T L)=>qc h' hL key h hh);have HD:=aa hd;have hhi:=hd.hz;have JJ:=hd.id;cases hhas:T.has key h with
 | false =>
  have e1:T.J4 key h = -1:=by unfold ae.J4;rw [hhas];rfl
  have e2:T.bA key h=ai.zero:=bU.eu hhas;have e3:T.eB key h=T:=by unfold ae.eB;rw [hhas];rfl
  rw [e1] at WH;rw [e2,e3];simp only [ai.zero];generalize T.MW key h=ak at *
  generalize T.EZ h (T.gU key h)=fg at *
  generalize T.Cj h (T.gU key h)=fk at *
  have zD:=hd.head.lt;clear hd hhas e1 e2 e3;go_enter Tryz.func67,Tryz.ntmps67
  go_wp2_with (go_at_call 121;(with_reducible refine (WH.out _ (HD.out.alloc _)).mono ?_);rintro e w1 ⟨rfl,hd1,hc1⟩;have D1:=aa hd1;have C1:=aa hc1;have E1:=aa ((af.new w 46 #[.int .u64 0,.int .u64 0,.int .u64 0]).aA hc1 (by omega));obtain ⟨e0,e1,e2⟩:=cells3 E1.out;have zE:=E1.out.lt;have fE:=λj=>E1.out.frozen j;clear hd1 hc1)
  refine aJ (λWf hWf=>?_);have hC:ah (λb=>b=w.heap.size) w1 Wf:=by rw [hWf];exact (((((ah.refl _ _).set1 _ _).set1 _ _).set1 _ _).alloc _).alloc _
  have hR:af Wf w.heap.size 46 #[.int .u64 0,.int .u64 0,.int .u64 0]:=by rw [hWf];exact ((((E1.out.set 0 _).set 1 _).set 2 _).alloc _).alloc _
  obtain ⟨r0,r1,r2⟩:=cells3 hR
  exact bodyPost_ret (v := .tuple #[.agg #[.int .u64 0,.int .u64 0,.int .u64 0],.bool false]) (by simp [results,Tryz.results67,go_sem,r0,r1,r2]) rfl
   ⟨rfl,D1.out.aA hC (λb h1 h2=>by omega),((ah.of_below (show Below w.heap.size w _ by go_grown)).trans (C1.out.mono (λb _ e=>by subst e;exact JJ))).trans' hC (λb hb e=>by omega)⟩
 | true =>
  obtain ⟨k,hz,hk,hg,hfl,-⟩:=hd.good.at' hhas;have e1:T.J4 key h=((T.bn key h:Nat):Int):=by unfold ae.J4;rw [if_pos hhas]
  have e2:T.MW key h=(k:Int):=by unfold ae.MW;rw [if_pos hhas,hz]
  have e3:T.bA key h=T.S (T.bn key h) k:=by unfold ae.bA;rw [hz,if_pos (by omega),Int.toNat_natCast]
  have e4:T.eB key h=T.era (T.bn key h) k:=by unfold ae.eB;rw [if_pos hhas,hz,Int.toNat_natCast]
  rw [e1,e2] at WH;rw [e3,e4];have ER:=aa (λ(w':World) (h':DW w' (GB (T.bn key h)) (T.M (T.bn key h)) (T.S (T.bn key h)))=>Ir (GB (T.bn key h)) (T.M (T.bn key h)) k (T.S (T.bn key h)) hk hfl w' h');generalize T.bn key h=x at *
  generalize T.EZ h (T.gU key h)=fg at *
  generalize T.Cj h (T.gU key h)=fk at *
  have HFL:=aa hfl;have zD:=hd.head.lt;have eQ:(k:Int)<8:=by omega
  have hxI:(x:Int)<(T.n:Int):=by omega
  clear hd hhas e1 e2 e3 e4 hz hfl;go_enter Tryz.func67,Tryz.ntmps67
  go_upto_region 4 with (go_at_call 121;(with_reducible refine (WH.out _ (HD.out.alloc _)).mono ?_);rintro e w1 ⟨rfl,hd1,hc1⟩;have D1:=aa hd1;have C1:=aa hc1;have E1:=aa ((af.new w 46 #[.int .u64 0,.int .u64 0,.int .u64 0]).aA hc1 (by omega));clear hd1 hc1)
  refine bG (λw2 hw2=>?_);have hB2:Below w1.heap.size w1 w2:=by rw [hw2];go_grown
  have D2:=aa (D1.out.later hB2);have E2:=aa (E1.out.below hB2 E1.out.lt);have C2:=aa (show ah (λb=>lo<=b/\b<hi) w w2 from (((ah.of_below (show Below w.heap.size w _ by go_grown)).trans (C1.out.mono (λb _ e=>by subst e;exact JJ)))).au hB2);have A2:=aa (show af w2 w1.heap.size 183 #[.int .i64 (x:Int),.int .i64 (k:Int)] by rw [hw2];exact (af.new _ _ _).alloc _);obtain ⟨a0,a1⟩:=bg A2.out;have zA:=A2.out.lt;obtain ⟨d0,-,TL,-⟩:=il D2.out;have p0:=D2.out.ptr x hg;have zP:=D2.out.pz;obtain ⟨-,g1,g2,g3⟩:=(D2.out.g x hg).cells k hk;have zG:=(D2.out.g x hg).lt;have hzw:w.heap.size<w1.heap.size:=E1.out.lt;have hCA:ah (λb=>b=w2.heap.size) w2.drew (w2.alloc (.cells #[.int .u64 0,.int .u64 0,.int .u64 0] 46)).drew:=(ah.refl _ w2.drew).alloc _;have hGE:GB x≠w2.heap.size:=by omega
  have hPE:P≠w2.heap.size:=by omega
  have hAE:w1.heap.size≠w2.heap.size:=by omega
  have hDE:D≠w2.heap.size:=by omega
  replace hw2:=aa hw2;clear hB2 E1 C1 D1;refine ag (λb=>b=w2.heap.size) #[⟨0,0,2^22,1,0⟩,⟨1,1,2^23,2^22,0⟩,⟨2,3,2^24,2^23,0⟩,⟨4,7,2^25,2^24,1⟩,⟨0,0,2^26,256,0⟩,⟨16,16,2^27,2^26,1⟩,⟨40,63,2^28,(2^25+2^27),0⟩,⟨64,127,2^29,2^28,1⟩,⟨0,0,2^30,256,0⟩,⟨256,256,2^31,2^30,1⟩,⟨128,255,2^32,2^29,0⟩,⟨1024,1279,2^33,2^32,0⟩,⟨2560,4095,2^34,(2^31+2^33),0⟩,⟨4096,8191,2^35,2^34,0⟩,⟨8192,16383,2^36,2^35,1⟩,⟨0,0,1024,0,2⟩,⟨65535,65535,0,(2^10+2^36),3⟩] 17064 [(0,0),(1,0),(2,0),(3,1),(4,0),(5,1),(6,0),(7,1),(8,0),(9,1),(10,0),(11,0),(12,0),(13,0),(14,1),(15,2),(16,3)] (by kernel_rfl) (by kernel_rfl) (by kernel_rfl) (by kernel_rfl) (by kernel_rfl) (by kernel_rfl) (λc a d v w h=>by cases d <;> exact h) ?_;refine aj ?_;refine aj ?_;refine aj ?_;refine bW Tryz.underlying128 ?_
  try refine aC ?_;refine aj ?_
  refine bW Tryz.underlying3 ?_
  try refine aC ?_;refine aj ?_
  refine bW Tryz.underlying172 ?_
  try refine aC ?_;refine aj ?_
  refine bW Tryz.underlying3 ?_
  try refine aC ?_;refine aj ?_;refine aj ?_;refine aj ?_;refine aj ?_
  refine jR [_,_,_] Tryz.underlying46 ?_
  try refine aC ?_
  refine iK λK hK=>?_;go_wp2_with (fail);refine iX hK (h:=?_);clear hK K
  try refine aC ?_
  refine fA λK hK=>?_;go_wp2_with (fail);refine hK.out _ _ ?_;clear hK K
  try refine aC ?_
  refine aD ?_;go_upto_region 5 with (fail)
  refine bG (λw3 hw3=>?_);have hB3:Below w2.heap.size w2 w3:=by rw [hw3];go_grown
  have D3:=aa (D2.out.later hB3);have E3:=aa (E2.out.below hB3 E2.out.lt);have C3:=aa (C2.out.au hB3);have A3:=aa (A2.out.below hB3 A2.out.lt);have N3:=aa (show af w3 w2.heap.size 46 #[.int .u64 (T.S x k).key,.int .u64 (T.S x k).val,.int .u64 (T.S x k).hash] by rw [hw3];exact af.new _ _ _);have amK:=E2.out.lt;have amO:=A2.out.lt;replace hw3:=aa hw3;clear hB3 E2 C2 D2 A2 a0 a1 d0 p0 g1 g2 g3 TL zP zG zA;obtain ⟨a0,a1⟩:=bg A3.out;have zA:=A3.out.lt;obtain ⟨d0,-,TL,-⟩:=il D3.out;have p0:=D3.out.ptr x hg;have zP:=D3.out.pz;have Dj:=D3.out.ig x hg;have hGw:=(D3.out.g x hg).lt;have hhi1:hi<=w.heap.size:=hhi;refine ag (λ_=>False) #[⟨0,0,2^37,1,0⟩,⟨1,1,2^38,2^37,0⟩,⟨2,3,2^39,2^38,0⟩,⟨4,7,2^40,2^39,1⟩,⟨0,0,2^41,256,0⟩,⟨16,16,2^42,2^41,1⟩,⟨40,63,2^43,(2^40+2^42),0⟩,⟨64,127,2^44,2^43,1⟩,⟨0,0,2^45,256,0⟩,⟨256,256,2^46,2^45,1⟩,⟨640,1023,2^47,(2^44+2^46),3⟩] 680 [(0,0),(1,0),(2,0),(3,1),(4,0),(5,1),(6,0),(7,1),(8,0),(9,1),(10,3)] (by kernel_rfl) (by kernel_rfl) (by kernel_rfl) (by kernel_rfl) (by kernel_rfl) (by kernel_rfl) (λc a d v w h=>by cases d <;> exact h) ?_;refine aj ?_;refine aj ?_;refine aj ?_;refine bW Tryz.underlying128 ?_
  try refine aC ?_;refine aj ?_
  refine bW Tryz.underlying3 ?_
  try refine aC ?_;refine aj ?_
  refine bW Tryz.underlying172 ?_
  try refine aC ?_;refine aj ?_
  refine bW Tryz.underlying3 ?_
  try refine aC ?_
  refine fA λK hK=>?_;go_wp2_with (go_at_call 125;((with_reducible refine (ER.out _ (D3.out.drew.g x hg)).mono ?_);rintro e w4 ⟨rfl,hg4,hc4⟩;have D4:=aa (D3.out.drew.era hg hk HFL.out hg4 hc4);have C4:=aa (show ah (λb=>lo<=b/\b<hi) w w4 from C3.out.drew.trans (hc4.mono (λb _ e=>by subst e;exact Dj)));have E4:=aa (E3.out.drew.aA hc4 (by omega));have N4:=aa (N3.out.drew.aA hc4 (by omega));clear hg4));refine hK.out _ _ ?_;clear hK K
  try refine aC ?_
  refine aD ?_;obtain ⟨e0,e1,e2⟩:=cells3 E4.out;obtain ⟨n0,n1,n2⟩:=cells3 N4.out;have zE:=E4.out.lt;have zN:=N4.out.lt;have fE:=λj=>E4.out.frozen j;have hne:w2.heap.size≠w.heap.size:=by omega
  go_wp2;refine aJ (λWf hWf=>?_);have hC:ah (λb=>b=w.heap.size) w4 Wf:=by rw [hWf];exact (((ah.refl _ _).set1 _ _).set1 _ _).set1 _ _
  have hR:af Wf w.heap.size 46 #[.int .u64 (T.S x k).key,.int .u64 (T.S x k).val,.int .u64 (T.S x k).hash]:=by rw [hWf];exact ((E4.out.set 0 _).set 1 _).set 2 _
  obtain ⟨r0,r1,r2⟩:=cells3 hR
  exact bodyPost_ret (v := .tuple #[.agg #[.int .u64 (T.S x k).key,.int .u64 (T.S x k).val,.int .u64 (T.S x k).hash],.bool true]) (by simp [results,Tryz.results67,go_sem,r0,r1,r2]) rfl
   ⟨rfl,D4.out.aA hC (λb h1 h2=>by omega),C4.out.trans' hC (λb hb e=>by omega)⟩
end
section
variable {w:World} {lo hi D P cap:Nat} {GB:Nat->Nat} {T:ae} {L:Int}
theorem Ox (hd:DT w lo hi D P cap GB T L) (hL:0<=L/\L<=1000000000) (i:Nat) (hi':i<T.n) :
 Calls Tryz.prog 132 #[.pointer (some ⟨D,0,none⟩),.int .i64 (i:Int)] w λe w' =>
  ∃v,e = .returned (.tuple #[v,.int .i64 0])/\w'.ownsRow w.heap.size 46 3 v (aS (T.M i) (T.S i)).length (cB (aS (T.M i) (T.S i)))/\DT w' lo hi D P cap GB (T.dw i) (L+1)/\ah (λb=>lo<=b/\b<hi) w w':=by
 have HD:=aa hd;have HGD:=aa hd.good;have hhi:=hd.hz;have JJ:=hd.id;obtain ⟨d0,d1,zD,fD⟩:=il hd;have hn:=hd.good.bounds;have e1:IntKind.i64.wrap (L+1)=L+1:=by rw [IntKind.wrap_i64];omega
 have hiI:(i:Int)<(T.n:Int):=by omega
 have EN:=aa (λ(w':World) (h':DW w' (GB i) (T.M i) (T.S i))=>Bv (GB i) (T.M i) (T.S i) w' h');obtain ⟨l,hl⟩:=dC (aS (T.M i) (T.S i));rw [<-hl] at EN ⊢;clear hd hl;go_enter Tryz.func132,Tryz.ntmps132
 go_upto_region 4 with (fail)
 refine bG (λw1 hw1=>?_);have D1:=aa (show DT w1 lo hi D P cap GB T (L+1) by rw [hw1];exact HD.out.looks (L+1));have C1:=aa (show ah (λb=>lo<=b/\b<hi) w w1 by rw [hw1];exact ((ah.refl (λb=>b=D) w).set1 _ _).mono (λb _ e=>by subst e;exact JJ));have hz1:w1.heap.size=w.heap.size:=by rw [hw1];simp
 replace hw1:=aa hw1;clear d0 d1 zD fD;obtain ⟨d0,-,zD,-⟩:=il D1.out;have p0:=D1.out.ptr i hi';have zP:=D1.out.pz
 go_wp2_with (go_at_call 126;(with_reducible refine (EN.out _ (D1.out.g i hi')).mono ?_);rintro e w2 ⟨v,rfl,hr2,hb2⟩;have D2:=aa (D1.out.later hb2);have R2:=aa (fU hr2 (show w.heap.size<=w1.heap.size by omega));have C2:=aa (C1.out.au hb2);clear hr2)
 clear d0 zD p0 zP D1 C1
 go_loopw [7] (λv7 wr => ∃k:Nat,k<=8/\v7 = .int .i64 (k:Int)/\DT wr lo hi D P cap GB (T.dE i k) (L+1)/\wr.ownsRow w.heap.size 46 3 v l.length (cB l)/\ah (λb=>lo<=b/\b<hi) w wr) (λv7 _=>8-(intOf v7).toNat)
 case atStart=>exact ⟨0,o7 _,rfl,D2.out,R2.out,C2.out⟩
 case round =>
  clear D2 R2 C2;obtain ⟨k,hk,rfl,hs,hr,hc⟩:=hrel;have KS:=aa hs;have KR:=aa hr;have KC:=aa hc;have hnn:(T.dE i k).n=T.n:=nA T i k;have hin:i<(T.dE i k).n:=by omega
  obtain ⟨d0,-,zD,-⟩:=il hs;have p0:=hs.ptr i hin;have zP:=hs.pz;have Dj:=hs.ig i hin;rw [hnn] at d0;clear hs hr hc;by_cases hlt:k<8
  . have eQ:(k:Int)<8:=by omega
    have ER:=aa (λ(w':World) (h':DW w' (GB i) ((T.dE i k).M i) ((T.dE i k).S i))=>OE (GB i) ((T.dE i k).M i) (k:Int) ((T.dE i k).S i) w' h');obtain ⟨x1,x2⟩:=VC T i k hlt;rw [<-x1,<-x2] at ER;have HO:=aa (show ∀j,j≠i->(T.dE i (k+1)).M j=(T.dE i k).M j/\(T.dE i (k+1)).S j=(T.dE i k).S j from λj hj=>⟨((kv T hj (k+1)).1).trans (kv T hj k).1.symm,((kv T hj (k+1)).2).trans (kv T hj k).2.symm⟩);generalize aem ((T.dE i k).M i) (k:Int)=eb at *
    generalize cK ((T.dE i k).M i) (k:Int) true=fe at *
    clear x1 x2
    go_wp2_with (go_at_call 125;(with_reducible refine (ER.out _ (KS.out.g i hin)).mono ?_);rintro e w3 ⟨rfl,hg3,hc3⟩;have D3:=aa (KS.out.group hin (T':=T.dE i (k+1)) (by rw [nA,nA]) hg3 hc3 HO.out (HGD.out.dE hi' (k+1) (by omega)));have C3:=aa (KC.out.trans (hc3.mono (λb _ e=>by subst e;exact Dj)));have R3:=aa (fo KR.out hc3 (λb hb e=>by omega));clear hg3)
    go_roundw
    case rel=>exact ⟨k+1,by omega,by go_num,D3.out,R3.out,C3.out⟩
    case measure=>simp [intOf];omega
  . obtain rfl:k=8:=by omega
    go_wp2;go_ret2;exact ⟨v,rfl,KR.out,KS.out,KC.out⟩
end
end Go.Proofs.YtolhmibejhldkaaGreatDoor
