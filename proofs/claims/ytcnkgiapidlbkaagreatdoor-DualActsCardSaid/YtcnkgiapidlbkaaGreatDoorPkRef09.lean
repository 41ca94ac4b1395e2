/- Texts joined: Ref09P Ref08c RefRight ProbeAt Ref09 Ref09w Ref09f Ref09d Ref09t. No condition but those that stand within. -/
import Derived.Test.YtcnkgiapidlbkaaGreatDoorProg
import Derived.Handy
import Derived.Lib.Hide
import Derived.WalkSmall
import Derived.Deep.DeepCutAuto
import Derived.Deep.CutBlock
import Derived.Test.YtcnkgiapidlbkaaGreatDoorPkSwar
import Derived.Test.YtcnkgiapidlbkaaGreatDoorPkMeter
import Derived.Test.YtcnkgiapidlbkaaGreatDoorPkErrs
import Derived.Test.YtcnkgiapidlbkaaGreatDoorPkGroup
import Derived.Test.YtcnkgiapidlbkaaGreatDoorPkTab
import Derived.Test.YtcnkgiapidlbkaaGreatDoorPkTab2
import Derived.Test.YtcnkgiapidlbkaaGreatDoorPkTab3
import Derived.Test.YtcnkgiapidlbkaaGreatDoorPkTake
import Derived.Test.YtcnkgiapidlbkaaGreatDoorPkTabM
import Derived.Test.YtcnkgiapidlbkaaGreatDoorPkBuild
import Derived.Test.YtcnkgiapidlbkaaGreatDoorPkEvac
import Derived.Test.YtcnkgiapidlbkaaGreatDoorPkSound
set_option linter.unusedVariables false
set_option linter.unusedSimpArgs false
set_option maxRecDepth 100000
set_option maxHeartbeats 8000000
namespace Go.Proofs.YtcnkgiapidlbkaaGreatDoor
open Go.RowKit Go.Proofs
def TabS.frG (T:TabS) (h:Nat) (o:Option Nat):Int:=match o with|none => -1|some j=>(T.wk h j:Int)
def TabS.frK (T:TabS) (h:Nat) (o:Option Nat):Int:=match o with|none => -1|some j=>freeZ (T.M (T.wk h j))
def TabS.fJ (T:TabS) (h i:Nat):Option Nat:=firstJ (fun j=>freeZ (T.M (T.wk h j))) i
def TabS.atG (T:TabS) (key:Int) (h:Nat):Int:=if T.has key h=true then (T.lastG key h:Int) else -1
def TabS.atK (T:TabS) (key:Int) (h:Nat):Int:=if T.has key h=true then T.atZ key h else -1
theorem frK_is (T:TabS) (key:Int) (h:Nat):T.frZ key h=T.frK h (T.freeJ key h):=rfl
theorem fJ_is (T:TabS) (key:Int) (h:Nat):T.freeJ key h=T.fJ h (T.looks key h):=rfl
theorem fJ_step (T:TabS) (h i:Nat):T.fJ h (i+1)=match T.fJ h i with|some j=>some j|none=>if 0≤freeZ (T.M (T.wk h i)) then some i else none:=rfl
theorem fJ_some {T:TabS} {h i j:Nat} (e:T.fJ h i=some j):T.fJ h (i+1)=some j:=by rw [fJ_step,e]
theorem fJ_new {T:TabS} {h i:Nat} (e:T.fJ h i=none) (hz:0≤freeZ (T.M (T.wk h i))):T.fJ h (i+1)=some i:=by rw [fJ_step,e];simp only;rw [if_pos hz]
theorem fJ_no {T:TabS} {h i:Nat} (hz:freeZ (T.M (T.wk h i))<0):T.fJ h (i+1)=T.fJ h i:=by
 rw [fJ_step]
 cases e:T.fJ h i with
 | some j=>rfl
 | none=>simp only;rw [if_neg (by omega)]
theorem frG_none (T:TabS) (h:Nat):T.frG h none = -1∧T.frK h none = -1:=⟨rfl,rfl⟩
theorem frG_some (T:TabS) (h j:Nat):T.frG h (some j)=(T.wk h j:Int)∧T.frK h (some j)=freeZ (T.M (T.wk h j)):=⟨rfl,rfl⟩
theorem looks_stop {T:TabS} {key:Int} {h i:Nat} (hi:i<T.n) (hm:∀j,j<i→T.stop key h (T.wk h j)=false) (hs:T.stop key h (T.wk h i)=true):T.looks key h=i+1 :=
 lookN_is (f:=fun j=>T.stop key h (T.wk h j)) (by omega) (by omega) (fun j hj=>hm j (by omega)) (fun _=>by rw [Nat.add_sub_cancel];exact hs)
theorem looks_end {T:TabS} {key:Int} {h:Nat} (hn:1≤T.n) (hm:∀j,j<T.n→T.stop key h (T.wk h j)=false):T.looks key h=T.n :=
 lookN_is (f:=fun j=>T.stop key h (T.wk h j)) hn (Nat.le_refl _) (fun j hj=>hm j (by omega)) (fun hlt=>absurd hlt (Nat.lt_irrefl _))
theorem where_hit {T:TabS} {key:Int} {h i:Nat} {k:Int} (hi:i<T.n) (hm:∀j,j<i→T.stop key h (T.wk h j)=false) (hk:T.hit key h (T.wk h i)=k) (h0:0≤k) :
 T.looks key h=i+1∧T.atG key h=(T.wk h i:Int)∧T.atK key h=k∧T.freeJ key h=T.fJ h (i+1):=by
 have hl:=looks_stop hi hm (by unfold TabS.stop;rw [hk];simp [h0])
 have hlast:T.lastG key h=T.wk h i:=by unfold TabS.lastG;rw [hl,Nat.add_sub_cancel]
 have haz:T.atZ key h=k:=by unfold TabS.atZ;rw [hlast,hk]
 have hhas:T.has key h=true:=by unfold TabS.has;rw [haz];simpa using h0
 refine ⟨hl,?_,?_,by rw [fJ_is,hl]⟩
 · unfold TabS.atG;rw [if_pos hhas,hlast]
 · unfold TabS.atK;rw [if_pos hhas,haz]
theorem where_miss {T:TabS} {key:Int} {h i:Nat} (hi:i<T.n) (hm:∀j,j<i→T.stop key h (T.wk h j)=false) (hk:T.hit key h (T.wk h i)<0) (ho:openB (T.M (T.wk h i))=true) :
 T.looks key h=i+1∧T.atG key h = -1∧T.atK key h = -1∧T.freeJ key h=T.fJ h (i+1):=by
 have hl:=looks_stop hi hm (by unfold TabS.stop;rw [ho];simp)
 have hlast:T.lastG key h=T.wk h i:=by unfold TabS.lastG;rw [hl,Nat.add_sub_cancel]
 have hhas:T.has key h=false:=by unfold TabS.has TabS.atZ;rw [hlast];simp;omega
 refine ⟨hl,?_,?_,by rw [fJ_is,hl]⟩
 · unfold TabS.atG;rw [hhas];rfl
 · unfold TabS.atK;rw [hhas];rfl
theorem stop_no {T:TabS} {key:Int} {h g:Nat} (hk:T.hit key h g<0) (ho:openB (T.M g)=false):T.stop key h g=false:=by
 unfold TabS.stop;rw [ho];simp;omega
theorem where_end {T:TabS} {key:Int} {h:Nat} (hn:1≤T.n) (hm:∀j,j<T.n→T.stop key h (T.wk h j)=false) :
 T.looks key h=T.n∧T.atG key h = -1∧T.atK key h = -1∧T.freeJ key h=T.fJ h T.n:=by
 have hl:=looks_end hn hm
 have hs:=hm (T.n-1) (by omega)
 have hhas:T.has key h=false:=by
  unfold TabS.has TabS.atZ TabS.lastG;rw [hl]
  unfold TabS.stop at hs
  simp only [Bool.or_eq_false_iff] at hs
  exact hs.1
 refine ⟨hl,?_,?_,by rw [fJ_is,hl]⟩
 · unfold TabS.atG;rw [hhas];rfl
 · unfold TabS.atK;rw [hhas];rfl
theorem eraN_era (T:TabS) (g k:Nat) (hk:k<8):(T.eraN g (k+1)).M g=eraM ((T.eraN g k).M g) (k:Int)∧(T.eraN g (k+1)).S g=eraT ((T.eraN g k).M g) ((T.eraN g k).S g) (k:Int):=by
 have hf:=eraN_fullB T g k k hk
 rw [if_neg (by omega)] at hf
 have hn:fullE ((T.eraN g k).M g) (k:Int) true=0↔fullB (T.M g) k=true:=by
  rw [←hf];exact ⟨fun e=>fullE_true hk e,fun e=>fullE_of hk e⟩
 unfold eraM eraT
 rw [show T.eraN g (k+1)=if fullB (T.M g) k=true then (T.eraN g k).era g k else T.eraN g k from rfl]
 by_cases c:fullB (T.M g) k=true
 · rw [if_pos c,if_pos (hn.2 c),if_pos (hn.2 c),Int.toNat_natCast]
   exact ⟨upd_same _ _ _,upd_same _ _ _⟩
 · rw [if_neg c,if_neg (fun e=>c (hn.1 e)),if_neg (fun e=>c (hn.1 e))]
   exact ⟨rfl,rfl⟩
def nF (n j:Nat):Value:=if j % 4=0 then .int .i64 (if j / 4<n then 1 else 0) else .int .u64 0
theorem nF_0:arrV 32 (nF 0) = #[.int .i64 0,.int .u64 0,.int .u64 0,.int .u64 0,.int .i64 0,.int .u64 0,.int .u64 0,.int .u64 0,.int .i64 0,.int .u64 0,.int .u64 0,.int .u64 0,.int .i64 0,.int .u64 0,.int .u64 0,.int .u64 0,.int .i64 0,.int .u64 0,.int .u64 0,.int .u64 0,.int .i64 0,.int .u64 0,.int .u64 0,.int .u64 0,.int .i64 0,.int .u64 0,.int .u64 0,.int .u64 0,.int .i64 0,.int .u64 0,.int .u64 0,.int .u64 0]:=rfl
theorem nF_8:arrV 32 (nF 8)=arrV 32 (dF (rep 128) (fun _=>EntS.zero)):=by
 refine arrV_congr fun j hj=>?_
 unfold nF dF
 rw [ln_rep 128 (j / 4) (by decide) (by omega),if_pos (show j / 4<8 by omega)]
 by_cases h:j % 4=0
 · rw [if_pos h,if_pos h];rfl
 · rw [if_neg h,if_neg h]
   by_cases h1:j % 4=1
   · rw [if_pos h1];rfl
   · rw [if_neg h1]
     by_cases h2:j % 4=2
     · rw [if_pos h2];rfl
     · rw [if_neg h2];rfl
theorem nF_set (n:Nat) (hn:n<8):(arrV 32 (nF n)).setIfInBounds (n*4) (.int .i64 1)=arrV 32 (nF (n+1)):=by
 rw [arrV_set _ _ _ _ (by omega)]
 refine arrV_congr fun j hj=>?_
 by_cases e:j=n*4
 · subst e;rw [if_pos rfl];unfold nF;rw [if_pos (by omega),if_pos (by omega)]
 · rw [if_neg e]
   unfold nF
   by_cases h:j % 4=0
   · rw [if_pos h,if_pos h]
     by_cases c:j / 4<n
     · rw [if_pos c,if_pos (by omega)]
     · rw [if_neg c,if_neg (by omega)]
   · rw [if_neg h,if_neg h]
theorem dnew_any (w:World):Calls Tryz.prog 88 #[] w fun e w'=>e = .returned (.pointer (some ⟨w.heap.size,0,none⟩))∧DW w' w.heap.size (rep 128) (fun _=>EntS.zero)∧Below w.heap.size w w':=by
 have HS:=hiq nF_set
 have HE:=hiq nF_8
 go_enter Tryz.func88,Tryz.ntmps88
 go_wp2
 go_loopw [2,5] (fun _ v5 wr => ∃k:Nat,k≤8∧v5 = .int .i64 (k:Int)∧Blk wr w.heap.size 172 (arrV 32 (nF k))∧Below w.heap.size w wr) (fun _ v5 _=>8-(intOf v5).toNat)
 case atStart=>exact ⟨0,by omega,rfl,by rw [nF_0];exact Blk.new _ _ _,by go_grown⟩
 case round =>
  obtain ⟨k,hk,rfl,hb,hB⟩:=hrel
  have HB:=hiq hb
  have hc:=hb.cell
  have hfz:=hb.frozen
  have hlb:=hb.lt
  clear hb
  by_cases hlt:k<8
  · have hltI:decide ((k:Int)<8)=true:=by simp;omega
    have hk8:(k:Int)<8:=by omega
    have c0:=hc (k*4)
    rw [arrV_get _ _ _ (by omega)] at c0
    clear hc
    go_wp2
    go_roundw
    case rel=>exact ⟨k+1,by omega,by go_num,by rw [←HS.out k hlt];exact HB.out.set _ _,hB.setCell (p:=⟨w.heap.size,_,none⟩) (Nat.le_refl _) _⟩
    case measure=>simp [intOf];omega
  · obtain rfl:k=8:=by omega
    clear hc
    go_wp2
    go_ret
    exact ⟨rfl,by unfold DW;rw [←HE.out];exact HB.out,hB⟩
theorem sl8_0 (w:World):(Instr.slice 9 (.string ⟨#[63,46,120,35]⟩) (some (.int .i64 0)) (some (.int .i64 1)) none).run Tryz.prog w = .ok (.string ⟨#[63]⟩) w:=by kernel_rfl
theorem sl8_1 (w:World):(Instr.slice 9 (.string ⟨#[63,46,120,35]⟩) (some (.int .i64 1)) (some (.int .i64 2)) none).run Tryz.prog w = .ok (.string ⟨#[46]⟩) w:=by kernel_rfl
theorem sl8_2 (w:World):(Instr.slice 9 (.string ⟨#[63,46,120,35]⟩) (some (.int .i64 2)) (some (.int .i64 3)) none).run Tryz.prog w = .ok (.string ⟨#[120]⟩) w:=by kernel_rfl
theorem sl8_3 (w:World):(Instr.slice 9 (.string ⟨#[63,46,120,35]⟩) (some (.int .i64 3)) (some (.int .i64 4)) none).run Tryz.prog w = .ok (.string ⟨#[35]⟩) w:=by kernel_rfl
theorem sl8 (k:Nat) (hk:k≤3) (w:World):(Instr.slice 9 (.string ⟨#[63,46,120,35]⟩) (some (.int .i64 (k:Int))) (some (.int .i64 ((k:Int)+1))) none).run Tryz.prog w = .ok (.string ⟨#[signK k]⟩) w:=by
 have h:k=0∨k=1∨k=2∨k=3:=by omega
 clear hk
 rcases h with rfl|rfl|rfl|rfl
 · exact sl8_0 w
 · exact sl8_1 w
 · exact sl8_2 w
 · exact sl8_3 w
theorem dtext_any (R m:Nat) (s:Nat→EntS) (w:World) (h:DW w R m s) :
 Calls Tryz.prog 68 #[.pointer (some ⟨R,0,none⟩)] w fun e w'=>e = .returned (.string (textW m))∧Below w.heap.size w w':=by
 have HD:=hiq h
 have IX:=hiq (fun (k:Nat) (hk:k<8) (w:World)=>ix_cell m s k hk w)
 have KS:=hiq (fun (k:Nat) (w:World)=>sl8 (kindN (ln m k)) (kindN_le _) w)
 have KL:=hiq (fun (k:Nat)=>kindN_le (ln m k))
 have hl:=h.lt
 clear h
 go_enter Tryz.func68,Tryz.ntmps68
 go_wp2_with (
  (refine wpList_value rfl (exec_loadAll (t:=170) rfl rfl Tryz.underlying170 rfl HD.out (by rw [arrV_size];exact Tryz.sizeOf170 _)) ?_)
  )
 go_loopw [3,10] (fun v3 v10 wr => ∃k:Nat,k≤8∧v10 = .int .i64 (k:Int)∧v3 = .string (textTo (fun i=>kindN (ln m i)) k)∧Below w.heap.size w wr) (fun _ v10 _=>8-(intOf v10).toNat)
 case atStart=>exact ⟨0,by omega,rfl,rfl,Below.refl _ _⟩
 case round =>
  obtain ⟨k,hk,rfl,rfl,hB⟩:=hrel
  have hzB:=hB.size
  by_cases hlt:k<8
  · have hltI:decide ((k:Int)<8)=true:=by simp;omega
    have ix:=IX.out k hlt
    have ks:=KS.out k
    have kl:=KL.out k
    have ht:=hiq (textTo_succ (fun i=>kindN (ln m i)) k)
    obtain ⟨sk,hsk⟩:=exq (signK (kindN (ln m k)))
    rw [←hsk] at ks ht
    replace hsk:=hiq hsk
    have hkx:=exq (kindN (ln m k))
    obtain ⟨kk,hkk⟩:=hkx
    simp only [←hkk] at ix ks kl
    clear hkk
    have hsz:=textTo_size (fun i=>kindN (ln m i)) k
    have hsz':¬9223372036854775807<(textTo (fun i=>kindN (ln m i)) k).size+1:=by omega
    clear hsz
    generalize textTo (fun i=>kindN (ln m i)) k=tk at *
    go_wp2
    go_roundw
    case rel=>exact ⟨k+1,by omega,by go_num,by rw [ht.out],by go_grown⟩
    case measure=>simp [intOf];omega
  · obtain rfl:k=8:=by omega
    go_wp2
    go_ret
    exact ⟨rfl,by go_grown⟩
def entsTo (m:Nat) (s:Nat→EntS) (n:Nat):List EntS:=((List.range n).filter (fullB m)).map s
theorem entsTo_full {m:Nat} {s:Nat→EntS} {n:Nat} (h:fullB m n=true):entsTo m s (n+1)=entsTo m s n ++ [s n]:=by
 unfold entsTo
 rw [List.range_succ,List.filter_append,List.map_append]
 congr 1
 simp [h]
theorem entsTo_not {m:Nat} {s:Nat→EntS} {n:Nat} (h:fullB m n=false):entsTo m s (n+1)=entsTo m s n:=by
 unfold entsTo
 rw [List.range_succ,List.filter_append,List.map_append]
 simp [h]
theorem entsTo_le (m:Nat) (s:Nat→EntS) (n:Nat):(entsTo m s n).length≤n:=by
 have:=List.length_filter_le (fullB m) (List.range n)
 simpa [entsTo] using this
theorem dentries_any (R m:Nat) (s:Nat→EntS) (w:World) (h:DW w R m s) :
 Calls Tryz.prog 105 #[.pointer (some ⟨R,0,none⟩)] w fun e w' => ∃v,e = .returned v∧w'.ownsRow w.heap.size 41 3 v (entsL m s).length (entV (entsL m s))∧Below w.heap.size w w':=by
 obtain ⟨i0,hi,hz0,hz1,hz2⟩:=info_parts infoE
 have HD:=hiq h
 have IX:=hiq (fun (k:Nat) (hk:k<8) (w:World)=>ix_cell m s k hk w)
 have hl:=h.lt
 have HLE:=hiq (entsTo_le m s)
 rw [show entsL m s=entsTo m s 8 from rfl]
 clear h
 go_enter Tryz.func105,Tryz.ntmps105
 go_wp2_with (
  (refine wpList_value rfl (exec_loadAll (t:=170) rfl rfl Tryz.underlying170 rfl (HD.out.alloc _) (by rw [arrV_size];exact Tryz.sizeOf170 _)) ?_)
  )
 go_loopw [3,11] (fun v3 v11 wr => ∃k:Nat,k≤8∧v11 = .int .i64 (k:Int)∧wr.ownsRow w.heap.size 41 3 v3 (entsTo m s k).length (entV (entsTo m s k))∧Below w.heap.size w wr) (fun _ v11 _=>8-(intOf v11).toNat)
 case atStart=>exact ⟨0,by omega,rfl,⟨rfl,.inr ⟨w.heap.size,0,#[],rfl,Nat.le_refl _,Blk.new _ _ _,by simp [entsTo],by decide,rfl,by simp [entsTo,entV]⟩⟩,by go_grown⟩
 case round =>
  obtain ⟨k,hk,rfl,hrow,hB⟩:=hrel
  have hzB:=hB.size
  obtain ⟨a3,cap3,rfl⟩:=ownsRow_slice hrow
  by_cases hlt:k<8
  · have hltI:decide ((k:Int)<8)=true:=by simp;omega
    have ix:=IX.out k hlt
    have kk:=kind3 m k
    by_cases hf:fullB m k=true
    · rw [hf] at kk
      have HEQ:=hiq (entsTo_full (s:=s) hf)
      have hle:=HLE.out k
      have HR:=hiq hrow
      clear hf hrow
      generalize entsTo m s k=l at *
      have HE3:=hiq (entV_snoc l (s k))
      go_wp2_with (at_builtin;refine wpList_append_own _ rfl _ _ 63 rfl w.heap.size 41 i0 (.agg #[.int .u64 0,.int .u64 0,.int .u64 0]) 3 24 Tryz.underlying63 hi hz0 hz1 hz2 rfl (by decide) _ _ _ rfl ((HR.out.alloc _).alloc _) ⟨wr.heap.size+1,0,none⟩ 1 1 [.int .u64 (s k).key,.int .u64 (s k).val,.int .u64 (s k).hash] rfl rfl (by have:=cell3_new (wr.alloc (.cells #[.int .i64 ((kindN (ln m k):Nat):Int),.int .u64 (s k).key,.int .u64 (s k).val,.int .u64 (s k).hash] 169)) (.int .u64 (s k).key) (.int .u64 (s k).val) (.int .u64 (s k).hash) 41;simpa using this) (by simp [Value.oneCell']) (by unfold maxLen;omega) (by omega) (by simp;omega) ?_;intro v' w4 hown4 hgrow4 _;have hb4:Below w.heap.size wr w4:=Below.trans (show Below w.heap.size wr _ from by go_grown) (below_append (HR.out.alloc _) (by simp;omega) hgrow4);clear hgrow4;replace hown4:=hiq hown4)
      go_roundw
      case rel=>exact ⟨k+1,by omega,by go_num,by rw [HEQ.out,HE3.out,List.length_append];exact hown4.out,hB.trans hb4⟩
      case measure=>simp [intOf];omega
    · replace hf:fullB m k=false:=by simpa using hf
      rw [hf] at kk
      have HEQ:=hiq (entsTo_not (s:=s) hf)
      have HR:=hiq hrow
      clear hf hrow
      go_wp2
      go_roundw
      case rel=>exact ⟨k+1,by omega,by go_num,by rw [HEQ.out];exact HR.out.alloc _,by go_grown⟩
      case measure=>simp [intOf];omega
  · obtain rfl:k=8:=by omega
    have HR:=hiq hrow
    clear hrow
    go_wp2
    go_ret
    exact ⟨_,rfl,HR.out,hB⟩
theorem refRight_any (g:Int) (w:World) :
 Calls Tryz.prog 44 #[.int .i64 g] w fun e w'=>e = .returned (.bool (rightB g))∧w=w':=by
 have HR:=hiq (rightB_iff g)
 go_enter Tryz.func44,Tryz.ntmps44
 go_wp2
 go_loop [3] (fun v=>(v = .int .i64 1)∨(v = .int .i64 2∧g≠1)∨(v = .int .i64 4∧g≠1∧g≠2)∨(v = .int .i64 8∧g≠1∧g≠2∧g≠4)∨(v = .int .i64 16∧g≠1∧g≠2∧g≠4∧g≠8)∨(v = .int .i64 32∧g≠1∧g≠2∧g≠4∧g≠8∧g≠16)∨(v = .int .i64 64∧g≠1∧g≠2∧g≠4∧g≠8∧g≠16∧g≠32)∨(v = .int .i64 128∧g≠1∧g≠2∧g≠4∧g≠8∧g≠16∧g≠32∧g≠64)) (fun v=>128-(intOf v).toNat)
 case atStart=>exact .inl rfl
 case round =>
  rcases hrel with rfl | ⟨rfl,h1⟩ | ⟨rfl,h1,h2⟩ | ⟨rfl,h1,h2,h4⟩ | ⟨rfl,h1,h2,h4,h8⟩ | ⟨rfl,h1,h2,h4,h8,h16⟩ | ⟨rfl,h1,h2,h4,h8,h16,h32⟩ | ⟨rfl,h1,h2,h4,h8,h16,h32,h64⟩
  · by_cases h:g=1
    · have hb:rightB g=true:=HR.out.2 (by omega)
      replace hb:=hiq hb
      subst h
      go_wp2
      go_ret
      exact ⟨by rw [hb.out];rfl,rfl⟩
    · go_wp2
      go_round
      case rel=>first|(refine .inr ?_;simp;omega)|(simp;omega)
      case measure=>simp [intOf]
  · by_cases h:g=2
    · have hb:rightB g=true:=HR.out.2 (by omega)
      replace hb:=hiq hb
      subst h
      go_wp2
      go_ret
      exact ⟨by rw [hb.out];rfl,rfl⟩
    · go_wp2
      go_round
      case rel=>first|(refine .inr ?_;simp;omega)|(simp;omega)
      case measure=>simp [intOf]
  · by_cases h:g=4
    · have hb:rightB g=true:=HR.out.2 (by omega)
      replace hb:=hiq hb
      subst h
      go_wp2
      go_ret
      exact ⟨by rw [hb.out];rfl,rfl⟩
    · go_wp2
      go_round
      case rel=>first|(refine .inr ?_;simp;omega)|(simp;omega)
      case measure=>simp [intOf]
  · by_cases h:g=8
    · have hb:rightB g=true:=HR.out.2 (by omega)
      replace hb:=hiq hb
      subst h
      go_wp2
      go_ret
      exact ⟨by rw [hb.out];rfl,rfl⟩
    · go_wp2
      go_round
      case rel=>first|(refine .inr ?_;simp;omega)|(simp;omega)
      case measure=>simp [intOf]
  · by_cases h:g=16
    · have hb:rightB g=true:=HR.out.2 (by omega)
      replace hb:=hiq hb
      subst h
      go_wp2
      go_ret
      exact ⟨by rw [hb.out];rfl,rfl⟩
    · go_wp2
      go_round
      case rel=>first|(refine .inr ?_;simp;omega)|(simp;omega)
      case measure=>simp [intOf]
  · by_cases h:g=32
    · have hb:rightB g=true:=HR.out.2 (by omega)
      replace hb:=hiq hb
      subst h
      go_wp2
      go_ret
      exact ⟨by rw [hb.out];rfl,rfl⟩
    · go_wp2
      go_round
      case rel=>first|(refine .inr ?_;simp;omega)|(simp;omega)
      case measure=>simp [intOf]
  · by_cases h:g=64
    · have hb:rightB g=true:=HR.out.2 (by omega)
      replace hb:=hiq hb
      subst h
      go_wp2
      go_ret
      exact ⟨by rw [hb.out];rfl,rfl⟩
    · go_wp2
      go_round
      case rel=>first|(refine .inr ?_;simp;omega)|(simp;omega)
      case measure=>simp [intOf]
  · have hb:rightB g=false:=by rw [Bool.eq_false_iff,ne_eq,HR.out];omega
    replace hb:=hiq hb
    go_wp2
    go_ret
    exact ⟨by rw [hb.out];rfl,rfl⟩
def triT:Nat→Nat
 | 0=>0
 | k+1=>triT k+k
theorem triT_two (k:Nat):2*triT k=k*(k-1):=by
 induction k with
 | zero=>rfl
 | succ k ih =>
  have h:triT (k+1)=triT k+k:=rfl
  rw [h,Nat.mul_add,ih]
  cases k with
  | zero=>rfl
  | succ j=>simp only [Nat.add_sub_cancel,Nat.add_mul,Nat.mul_add];omega
theorem triT_half (i:Nat):triT (i+1)=i*(i+1) / 2:=by
 have h:=triT_two (i+1)
 rw [Nat.add_sub_cancel,Nat.mul_comm (i+1) i] at h
 omega
theorem triT_le (k:Nat) (h:k≤65):triT k≤65*k:=by
 induction k with
 | zero=>exact Nat.le_refl _
 | succ k ih=>have:=ih (by omega);show triT k+k≤65*(k+1);omega
theorem refAt_ok (h g i:Nat) (hr:rightB (g:Int)=true) (hh:h<18446744073709551616) (hi:i<g) (w:World) :
 Calls Tryz.prog 163 #[.int .u64 (h:Int),.int .i64 (g:Int),.int .i64 (i:Int)] w fun e w'=>e = .returned (.tuple #[.int .i64 ((walkAt h g i:Nat):Int),.int .i64 0])∧w=w':=by
 have hgb:=right_bd hr
 have hX:h % g<g:=Nat.mod_lt _ (by omega)
 have hval:(h % g+triT (i+1)) % g=walkAt h g i:=by unfold walkAt;rw [triT_half,Nat.mod_add_mod]
 have hmod:(h:Int) % (g:Int)=((h % g:Nat):Int):=by omega
 generalize walkAt h g i=y at *
 generalize h % g=X at *
 have HV:=hiq hval
 have RT:=fun w=>refRight_any (g:Int) w
 rw [hr] at RT
 replace RT:=hiq RT
 clear hr hval
 have T0:(X:Int)=((X+triT 0:Nat):Int):=by simp [triT]
 replace T0:=hiq T0
 go_enter Tryz.func163,Tryz.ntmps163
 go_wp2_with (first|(go_at_call 44;refine (RT.out _).mono ?_;rintro e w' ⟨rfl,rfl⟩))
 go_loop [8,9] (fun v8 v9 => ∃k:Nat,k≤i+1∧v9 = .int .i64 (k:Int)∧v8 = .int .u64 ((X+triT k:Nat):Int)) (fun _ v9=>i+1-(intOf v9).toNat)
 case atStart=>exact ⟨0,by omega,rfl,by rw [←T0.out,hmod]⟩
 case round =>
  obtain ⟨k,hk,rfl,rfl⟩:=hrel
  by_cases hlt:k<i+1
  · have hle:(k:Int)≤(i:Int):=by omega
    have ht:=triT_le k (by omega)
    have hs:((X+triT k:Nat):Int)+(k:Int)=((X+triT (k+1):Nat):Int):=by show _=((X+(triT k+k):Nat):Int);omega
    have HS:=hiq hs
    clear hs
    have hS:X+triT k≤65*65+64:=by omega
    generalize X+triT k=S at *
    go_wp2
    go_round
    case rel=>exact ⟨k+1,by omega,by go_num,by rw [←HS.out]⟩
    case measure=>simp [intOf];omega
  · obtain rfl:k=i+1:=by omega
    have ht:=triT_le (i+1) (by omega)
    have hv:((X+triT (i+1):Nat):Int) % (g:Int)=(y:Int):=by rw [←HV.out];omega
    have hy:y<g:=by rw [←HV.out];exact Nat.mod_lt _ (by omega)
    generalize X+triT (i+1)=S at *
    go_wp2
    go_ret2
    exact ⟨rfl,rfl⟩
theorem refOrder_any (h:Nat) (n:Int) (hh:h<18446744073709551616) (w:World) :
 Calls Tryz.prog 130 #[.int .u64 (h:Int),.int .i64 n] w fun e w' => ∃v,e = .returned v∧w'.ownsRow w.heap.size 3 1 v (ordN n) ((ordL h n).map (Value.int .i64))∧Below w.heap.size w w':=by
 obtain ⟨i0,hi,hz0,hz1,hz2⟩:=info_parts infoInt
 have RT:=fun w=>refRight_any n w
 rw [ordL_map]
 by_cases hr:rightB n=true
 · obtain ⟨g,rfl⟩:=Int.eq_ofNat_of_zero_le (show 0≤n by rw [rightB_iff] at hr;omega)
   have hgb:=right_bd hr
   have hN:ordN (g:Int)=g:=by unfold ordN;rw [if_pos hr];simp
   rw [hN,Int.toNat_natCast]
   have AT:=hiq (fun (i:Nat) (hi:i<g) (w:World)=>refAt_ok h g i hr hh hi w)
   rw [hr] at RT
   replace RT:=hiq RT
   clear hr hN
   go_enter Tryz.func130,Tryz.ntmps130
   go_wp2
   have hb0:Below w.heap.size w (w.alloc (.cells #[] 3)):=(Below.refl _ _).alloc (Nat.le_refl _) _
   go_loopw [5,6,7,8] (fun v5 v6 _ _ wr => ∃ (k:Nat),k≤g∧v6 = .int .i64 (k:Int)∧wr.ownsRow w.heap.size 3 1 v5 k ((List.range k).map (encI (fun i=>((walkAt h g i:Nat):Int))))∧Below w.heap.size w wr) (fun _ v6 _ _ _=>g-(intOf v6).toNat)
   case atStart=>exact ⟨0,Nat.zero_le _,rfl,by simpa using ownsRow_empty (Blk.new w _ _),hb0⟩
   case round =>
    obtain ⟨k,hk,rfl,hrow2,hbo⟩:=hrel
    clear hb0
    have HR2:=hiq hrow2
    obtain ⟨a2',c2',rfl⟩:=ownsRow_slice hrow2
    have hzo:=hbo.size
    have hsn:=hiq (encI_snoc (fun i=>((walkAt h g i:Nat):Int)) k)
    clear hrow2
    by_cases hlt:k<g
    · have AK:=hiq (AT.out k hlt)
      generalize walkAt h g k=y at *
      go_wp2_with (first
       | (go_at_call 44;refine (RT.out _).mono ?_;rintro e w' ⟨rfl,rfl⟩)
       | (go_at_call 163;refine (AK.out _).mono ?_;rintro e w' ⟨rfl,rfl⟩)
       | (at_builtin;refine wpList_append_own _ rfl _ _ 23 rfl w.heap.size 3 i0 (.int .i64 0) 1 8 Tryz.underlying23 hi hz0 hz1 hz2 rfl (by decide) _ _ _ rfl (HR2.out.alloc _) ⟨wr.heap.size,0,none⟩ 1 1 [.int .i64 (y:Int)] rfl rfl (cell_one_new _ _ _) (by simp [Value.oneCell']) (by unfold maxLen;omega) (by omega) (by simp;omega) ?_;intro v' w4 hown4 hgrow4 _;have hb4:=below_append HR2.out hzo hgrow4;clear hgrow4;replace hown4:=hiq hown4))
      go_roundw
      case rel=>exact ⟨k+1,by omega,by go_num,by rw [hsn.out];simpa using hown4.out,hbo.trans hb4⟩
      case measure=>simp [intOf];omega
    · obtain rfl:k=g:=by omega
      go_wp2_with (first
       | (go_at_call 44;refine (RT.out _).mono ?_;rintro e w' ⟨rfl,rfl⟩))
      go_ret
      exact ⟨_,rfl,HR2.out,hbo⟩
 · have hN:ordN n=0:=by unfold ordN;rw [if_neg hr]
   rw [hN]
   rw [show rightB n=false by simpa using hr] at RT
   replace RT:=hiq RT
   clear hr hN
   go_enter Tryz.func130,Tryz.ntmps130
   go_wp2
   refine wp_loop_rounds 1 ?_
   rw [rounds_succ]
   go_wp2_with (first
    | (go_at_call 44;refine (RT.out _).mono ?_;rintro e w' ⟨rfl,rfl⟩))
   go_ret
   exact ⟨_,rfl,by simpa using ownsRow_empty (Blk.new w _ _),(Below.refl _ _).alloc (Nat.le_refl _) _⟩
theorem Blk.grown {w w':World} {B:Nat} {T:TypeId} {c:Array Value} {row:Option Nat} (h:Blk w B T c) (hg:w.grownBy w' row) (hne:row≠some B):Blk w' B T c:=(hg.block B h.lt (fun e=>hne e.symm)).trans h
theorem Blk.ne_type {w:World} {a b:Nat} {S T:TypeId} {c d:Array Value} (h:Blk w a S c) (k:Blk w b T d) (hne:S≠T):a≠b:=fun e=>by
 subst e
 have:=h.symm.trans k
 simp at this
 exact hne this.2
theorem row_ne_blk {w:World} {base size n:Nat} {e T:TypeId} {v:Value} {xs:List Value} (h:w.ownsRow base e size v n xs) {B:Nat} {c:Array Value} (hb:Blk w B T c) (hne:T≠e):v.ownBlock≠some B:=by
 rcases h.2 with ⟨rfl,-⟩ | ⟨g,cap,cur,rfl,-,hg,-⟩
 · intro e;cases e
 · intro e1
   have e2:g=B:=Option.some.inj e1
   exact Blk.ne_type hb (show Blk w g e cur from hg) hne e2.symm
structure DT (w:World) (lo hi D P cap:Nat) (GB:Nat→Nat) (T:TabS) (L:Int):Prop where
 head:Blk w D 98 #[.slice (some ⟨P,0,none⟩) T.n cap,.int .i64 L]
 ptr:∀i,i<T.n→w.cell? ⟨P,i,none⟩=some (.pointer (some ⟨GB i,0,none⟩))
 pz:P<w.heap.size
 g:∀i,i<T.n→DW w (GB i) (T.M i) (T.S i)
 dp:D≠P
 gd:∀i,i<T.n→GB i≠D∧GB i≠P
 gg:∀i j,i<T.n→j<T.n→i≠j→GB i≠GB j
 id:lo≤D∧D<hi
 ip:lo≤P∧P<hi
 ig:∀i,i<T.n→lo≤GB i∧GB i<hi
 hz:hi≤w.heap.size
 good:TGood T
theorem DT.later {w w':World} {lo hi D P cap:Nat} {GB:Nat→Nat} {T:TabS} {L:Int} (h:DT w lo hi D P cap GB T L) (hb:Below w.heap.size w w'):DT w' lo hi D P cap GB T L :=
 ⟨h.head.below hb h.head.lt,fun i hi=>(hb.cell (p:=⟨P,i,none⟩) h.pz).trans (h.ptr i hi),Nat.lt_of_lt_of_le h.pz hb.size,fun i hi=>(h.g i hi).below hb (h.g i hi).lt,h.dp,h.gd,h.gg,h.id,h.ip,h.ig,Nat.le_trans h.hz hb.size,h.good⟩
theorem DT.chg {X:Nat→Prop} {w w':World} {lo hi D P cap:Nat} {GB:Nat→Nat} {T:TabS} {L:Int} (h:DT w lo hi D P cap GB T L) (hc:Chg X w w') (hX:∀b,lo≤b→b<hi→¬X b):DT w' lo hi D P cap GB T L :=
 ⟨h.head.chg hc (hX _ h.id.1 h.id.2),fun i hi=>(hc.cell (p:=⟨P,i,none⟩) h.pz (hX _ h.ip.1 h.ip.2)).trans (h.ptr i hi),Nat.lt_of_lt_of_le h.pz hc.size,fun i hi=>(h.g i hi).chg hc (hX _ (h.ig i hi).1 (h.ig i hi).2),h.dp,h.gd,h.gg,h.id,h.ip,h.ig,Nat.le_trans h.hz hc.size,h.good⟩
theorem DT.alloc {w:World} {lo hi D P cap:Nat} {GB:Nat→Nat} {T:TabS} {L:Int} (h:DT w lo hi D P cap GB T L) (o:Obj):DT (w.alloc o) lo hi D P cap GB T L:=h.later ((Below.refl _ _).alloc (Nat.le_refl _) o)
theorem DT.drew {w:World} {lo hi D P cap:Nat} {GB:Nat→Nat} {T:TabS} {L:Int} (h:DT w lo hi D P cap GB T L):DT w.drew lo hi D P cap GB T L:=h.later (Below.refl _ _).drew
theorem DT.looks {w:World} {lo hi D P cap:Nat} {GB:Nat→Nat} {T:TabS} {L:Int} (h:DT w lo hi D P cap GB T L) (L':Int):DT (w.setCell ⟨D,1,none⟩ (.int .i64 L')) lo hi D P cap GB T L':=by
 have hC:Chg (fun b=>b=D) w (w.setCell ⟨D,1,none⟩ (.int .i64 L')):=(Chg.refl _ _).set1 _ _
 exact ⟨h.head.set 1 _,fun i hi=>(hC.cell (p:=⟨P,i,none⟩) h.pz (fun e=>h.dp e.symm)).trans (h.ptr i hi),Nat.lt_of_lt_of_le h.pz hC.size,fun i hi=>(h.g i hi).chg hC (h.gd i hi).1,h.dp,h.gd,h.gg,h.id,h.ip,h.ig,Nat.le_trans h.hz hC.size,h.good⟩
theorem DT.group {w w':World} {lo hi D P cap:Nat} {GB:Nat→Nat} {T T':TabS} {L:Int} (h:DT w lo hi D P cap GB T L) {i:Nat} (hi':i<T.n) (hn:T'.n=T.n) (hg:DW w' (GB i) (T'.M i) (T'.S i)) (hc:Chg (fun b=>b=GB i) w w')
 (ho:∀j,j≠i→T'.M j=T.M j∧T'.S j=T.S j) (hgood:TGood T'):DT w' lo hi D P cap GB T' L:=by
 have hd:=h.gd i hi'
 refine ⟨by rw [hn];exact h.head.chg hc (fun e=>hd.1 e.symm),fun j hj=>?_,Nat.lt_of_lt_of_le h.pz hc.size,fun j hj=>?_,h.dp,fun j hj=>h.gd j (by omega),fun j k hj hk=>h.gg j k (by omega) (by omega),h.id,h.ip,fun j hj=>h.ig j (by omega),Nat.le_trans h.hz hc.size,hgood⟩
 · exact (hc.cell (p:=⟨P,j,none⟩) h.pz (fun e=>hd.2 e.symm)).trans (h.ptr j (by omega))
 · by_cases e:j=i
   · subst e;exact hg
   · rw [(ho j e).1,(ho j e).2]
     exact (h.g j (by omega)).chg hc (h.gg j i (by omega) hi' e)
theorem dcells {w:World} {lo hi D P cap:Nat} {GB:Nat→Nat} {T:TabS} {L:Int} (h:DT w lo hi D P cap GB T L):w.cell? ⟨D,0,none⟩=some (.slice (some ⟨P,0,none⟩) T.n cap)∧w.cell? ⟨D,1,none⟩=some (.int .i64 L)∧D<w.heap.size∧(∀j,w.frozen? ⟨D,j,none⟩=false):=⟨h.head.cell 0,h.head.cell 1,h.head.lt,fun j=>h.head.frozen j⟩
theorem infoDG:(Tryz.prog.info? 137).map (fun i=>(i.zero,i.size,i.bytes))=some (some (.pointer none),1,8):=by kernel_rfl
theorem row_ptrs {w:World} {base k:Nat} {v:Value} {F:Nat→Nat} {e:TypeId} (h:w.ownsRow base e 1 v k ((List.range k).map (fun i=>Value.pointer (some ⟨F i,0,none⟩)))) (hk:1≤k) :
 ∃g cap cur,v = .slice (some ⟨g,0,none⟩) k cap∧base≤g∧Blk w g e cur∧∀i,i<k→w.cell? ⟨g,i,none⟩=some (.pointer (some ⟨F i,0,none⟩)):=by
 rcases h.2 with ⟨rfl,rfl⟩ | ⟨g,cap,cur,rfl,hb,hg,h1,h2,h3,h4⟩
 · omega
 · refine ⟨g,cap,cur,rfl,hb,hg,fun i hi=>?_⟩
   have h5:=h.cells (g:=g) rfl i
   have h6:(⟨g,0,none⟩:Addr).add i=⟨g,i,none⟩:=by
    simp only [Addr.add];split
    · rename_i e;rw [e]
    · simp
   rw [h6] at h5
   exact h5 _ (by simp [hi])
structure DN (wr:World) (D k:Nat) (v:Value) (GB:Nat→Nat) (w:World):Prop where
 head:Blk wr D 98 #[v,.int .i64 0]
 row:wr.ownsRow (D+1) 137 1 v k ((List.range k).map (fun i=>Value.pointer (some ⟨GB i,0,none⟩)))
 g:∀i,i<k→DW wr (GB i) (rep 128) (fun _=>EntS.zero)
 lt:∀i,i<k→w.heap.size≤GB i
 inc:∀i j,i<j→j<k→GB i<GB j
 b:Below w.heap.size w wr
theorem dtnew_ok (n:Nat) (hr:rightB (n:Int)=true) (w:World) :
 Calls Tryz.prog 45 #[.int .i64 (n:Int)] w fun e w' => ∃D P cap GB,e = .returned (.tuple #[.pointer (some ⟨D,0,none⟩),.int .i64 0])∧DT w' w.heap.size w'.heap.size D P cap GB (TabS.new n) 0∧Below w.heap.size w w':=by
 obtain ⟨iP,hiP,hzP0,hzP1,hzP2⟩:=info_parts infoDG
 have RT:=fun w=>refRight_any (n:Int) w
 have hn:=right_bd hr
 have HR:=hiq hr
 rw [hr] at RT
 clear hr
 go_enter Tryz.func45,Tryz.ntmps45
 go_wp2_with (go_at_call 44;refine (RT _).mono ?_;rintro e w' ⟨rfl,rfl⟩)
 obtain ⟨D,hD⟩:=exq w.heap.size
 have D0:=hiq (show DN (w.alloc (.cells #[.slice none 0 0,.int .i64 0] 98)) D 0 (.slice none 0 0) (fun _=>0) w from ⟨by rw [hD];exact Blk.new _ _ _,⟨rfl,.inl ⟨rfl,rfl⟩⟩,fun i hi=>by omega,fun i hi=>by omega,fun i j _ hj=>by omega,(Below.refl _ _).alloc (Nat.le_refl _) _⟩)
 have hDw:w.heap.size≤D:=by omega
 simp only [←hD]
 clear hD
 go_loopw [5] (fun v5 wr => ∃ (k:Nat) (v:Value) (GB:Nat→Nat),k≤n∧v5 = .int .i64 (k:Int)∧DN wr D k v GB w) (fun v5 _=>n-(intOf v5).toNat)
 case atStart=>exact ⟨0,_,_,Nat.zero_le _,rfl,D0.out⟩
 case round =>
  clear D0
  obtain ⟨k,v,GB,hk,rfl,hS⟩:=hrel
  obtain ⟨a,cap,rfl⟩:=ownsRow_slice hS.row
  have KS:=hiq hS
  have c0:=hS.head.cell 0
  have zD:=hS.head.lt
  have zw:=hS.b.size
  clear hS
  by_cases hlt:k<n
  · have hltI:(k:Int)<(n:Int):=by omega
    go_wp2
    refine wp_region_seq (fun _=>False) #[⟨0,0,65536,16,0⟩,⟨0,0,131072,16,0⟩,⟨2,2,262144,131072,0⟩,⟨4,6,524288,262144,0⟩,⟨8,14,1048576,524288,1⟩,⟨0,0,2097152,0,2⟩,⟨32,32,4194304,2097152,2⟩,⟨112,126,8388608,5242880,3⟩,⟨255,255,16777216,65536,0⟩,⟨511,511,33554432,16777216,0⟩,⟨767,1023,0,41943040,3⟩] 16 [(0,0),(1,0),(2,0),(3,0),(4,1),(5,2),(6,2),(7,3),(8,0),(9,0),(10,3)] (by kernel_rfl) (by kernel_rfl) (by kernel_rfl) (by kernel_rfl) (by kernel_rfl) (by kernel_rfl) (fun c a d v w h=>by cases d <;> exact h) ?_
    refine zqC ?_;refine zqC ?_;refine zqC ?_;refine zqC ?_
    refine zq1 Tryz.underlying96 ?_
    try refine zqP ?_
    refine zqD fun K hK=>?_;go_wp2_with (go_at_call 88;refine (dnew_any _).mono ?_;rintro e w2 ⟨rfl,hg2,hb2⟩;have G2:=hiq hg2;have hz2:wr.heap.size≤w2.heap.size:=(by have:=hb2.size;simpa using this);have B2:=hiq (show Below wr.heap.size wr w2 from Below.undrew hb2);clear hg2);refine hkA hK (h:=?_);clear hK K
    try refine zqP ?_
    refine zqD fun K hK=>?_;go_wp2_with (fail);refine hkA hK (h:=?_);clear hK K
    try refine zqP ?_
    refine zqE fun K hK=>?_;(refine wp_append_own _ _ _ 96 rfl (D+1) 137 iP (.pointer none) 1 8 Tryz.underlying96 hiP hzP0 hzP1 hzP2 rfl (by decide) _ _ _ rfl (ownsRow_later (ownsRow_later KS.out.row B2.out) ((Below.refl _ _).alloc (Nat.le_refl _) _)) ⟨w2.heap.size,0,none⟩ 1 1 [.pointer (some ⟨wr.heap.size,0,none⟩)] rfl rfl (cell1_new w2 _ _) (by simp [Value.oneCell']) (by unfold maxLen;omega) (by omega) (by simp;omega) ?_;intro v' w3 hown3 hgrow3 _;obtain ⟨g',cap',rfl⟩:=ownsRow_succ hown3;have R3:=hiq hown3;have GR:=hiq hgrow3;have ND:=hiq (row_ne_blk (ownsRow_later (ownsRow_later KS.out.row B2.out) ((Below.refl _ _).alloc (Nat.le_refl _) (.cells #[.pointer (some ⟨wr.heap.size,0,none⟩)] 137))) (((KS.out.head.below B2.out KS.out.head.lt).alloc (.cells #[.pointer (some ⟨wr.heap.size,0,none⟩)] 137))) (by decide));have H3:=hiq (Blk.grown ((KS.out.head.below B2.out KS.out.head.lt).alloc _) GR.out ND.out);have d30:=H3.out.cell 0;have zD3:=H3.out.lt;have df3:=fun j=>H3.out.frozen j;clear hown3 hgrow3);refine hK.out _ _ ?_;clear hK K
    try refine zqP ?_;refine zqC ?_;refine zqC ?_
    refine zqE fun K hK=>?_;go_wp2_with (fail);refine hK.out _ _ ?_;clear hK K
    try refine zqP ?_
    refine seq_nil ?_
    go_wp2
    go_roundw
    case rel =>
     refine ⟨k+1,.slice (some ⟨g',0,none⟩) (k+1) cap',fun i=>if i=k then wr.heap.size else GB i,by omega,by go_num,?_⟩
     have hC:Chg (fun b=>b=D) w3 (w3.setCell ⟨D,0,none⟩ (.slice (some ⟨g',0,none⟩) (k+1) cap')):=(Chg.refl _ _).set1 _ _
     have hal:Below w2.heap.size w2 (w2.alloc (.cells #[.pointer (some ⟨wr.heap.size,0,none⟩)] 137)):=(Below.refl _ _).alloc (Nat.le_refl _) _
     have hrow:=ownsRow_later (ownsRow_later KS.out.row B2.out) hal
     have hDW:∀ (G m:Nat) (s:Nat→EntS),DW w2 G m s→DW (w3.setCell ⟨D,0,none⟩ (.slice (some ⟨g',0,none⟩) (k+1) cap')) G m s:=fun G m s h=>by
      have h1:DW (w2.alloc (.cells #[.pointer (some ⟨wr.heap.size,0,none⟩)] 137)) G m s:=h.alloc _
      have h2:DW w3 G m s:=Blk.grown h1 GR.out (row_ne_blk hrow h1 (by decide))
      exact h2.chg hC (Blk.ne_type h2 H3.out (by decide))
     refine ⟨H3.out.set 0 _,ownsRow_chg ?_ hC (fun b hb e=>by omega),fun i hi=>?_,fun i hi=>?_,fun i j hij hj=>?_,?_⟩
     · have h1:=R3.out
       rw [List.range_succ,List.map_append]
       have h2:(List.range k).map (fun i=>Value.pointer (some ⟨if i=k then wr.heap.size else GB i,0,none⟩))=(List.range k).map (fun i=>Value.pointer (some ⟨GB i,0,none⟩)):=by
        apply List.map_congr_left
        intro i hi
        rw [if_neg (by have:=List.mem_range.1 hi;omega)]
       rw [h2]
       simpa using h1
     · by_cases e:i=k
       · subst e;simp only [if_true];exact hDW _ _ _ G2.out
       · simp only [if_neg e];exact hDW _ _ _ ((KS.out.g i (by omega)).below B2.out (KS.out.g i (by omega)).lt)
     · by_cases e:i=k
       · simp only [if_pos e];exact zw
       · simp only [if_neg e];exact KS.out.lt i (by omega)
     · have e1:i≠k:=by omega
       simp only [if_neg e1]
       by_cases e:j=k
       · simp only [if_pos e];exact (KS.out.g i (by omega)).lt
       · simp only [if_neg e];exact KS.out.inc i j hij (by omega)
     · have h1:=(KS.out.b.trans (B2.out.mono zw)).trans (hal.mono (Nat.le_trans zw hz2))
       have h2:Below w.heap.size w w3:=h1.grown GR.out h1.size (fun q eq=>by have:=(hrow.lt q eq).1;omega)
       exact h2.setCell (p:=⟨D,0,none⟩) hDw _
    case measure=>simp [intOf];omega
  · obtain rfl:k=n:=by omega
    obtain ⟨g,cap',cur,e,hgb,hgk,hgc⟩:=row_ptrs KS.out.row hn.1
    cases e
    go_wp2
    go_ret2
    refine ⟨D,g,cap,GB,rfl,⟨KS.out.head,hgc,hgk.lt,fun i hi=>KS.out.g i hi,Blk.ne_type KS.out.head hgk (by decide),fun i hi=>⟨Blk.ne_type (KS.out.g i hi) KS.out.head (by decide),Blk.ne_type (KS.out.g i hi) hgk (by decide)⟩,fun i j hi hj hij=>?_,⟨hDw,zD⟩,⟨by omega,hgk.lt⟩,fun i hi=>⟨KS.out.lt i hi,(KS.out.g i hi).lt⟩,Nat.le_refl _,TGood.new HR.out⟩,KS.out.b⟩
    rcases Nat.lt_or_gt_of_ne hij with c|c
    · exact Nat.ne_of_lt (KS.out.inc i j c hj)
    · exact Nat.ne_of_gt (KS.out.inc j i c hi)
theorem dtcount_any {w:World} {lo hi D P cap:Nat} {GB:Nat→Nat} {T:TabS} {L:Int} (h:DT w lo hi D P cap GB T L) (kd:Nat) :
 Calls Tryz.prog 134 #[.pointer (some ⟨D,0,none⟩),.int .i64 (kd:Int)] w fun e w'=>e = .returned (.int .i64 ((T.cnt kd:Nat):Int))∧Below w.heap.size w w':=by
 obtain ⟨c0,-,zD,-⟩:=dcells h
 have hn:=h.good.bounds
 have HS:=hiq (show ∀k,sumN (fun i=>countK (T.M i) kd) k≤8*k from fun k=>sumN_le fun i _=>countK_le _ _)
 have HD:=hiq h
 unfold TabS.cnt
 clear h
 go_enter Tryz.func134,Tryz.ntmps134
 go_wp2
 go_loopw [13,5] (fun v13 v5 wr => ∃k:Nat,k≤T.n∧v13 = .int .i64 (k:Int)∧v5 = .int .i64 ((sumN (fun i=>countK (T.M i) kd) k:Nat):Int)∧Below w.heap.size w wr) (fun v13 _ _=>T.n-(intOf v13).toNat)
 case atStart=>exact ⟨0,Nat.zero_le _,rfl,rfl,Below.refl _ _⟩
 case round =>
  clear c0
  obtain ⟨k,hk,rfl,rfl,hB⟩:=hrel
  have KD:=hiq (HD.out.later hB)
  have hb8:=HS.out k
  by_cases hlt:k<T.n
  · have hltI:(k:Int)<(T.n:Int):=by omega
    have p0:=KD.out.ptr k hlt
    have zP:=KD.out.pz
    have CN:=hiq (fun (w':World) (h:DW w' (GB k) (T.M k) (T.S k))=>dcount_any (GB k) (T.M k) kd (T.S k) w' h)
    have hc8:=countK_le (T.M k) kd
    have hstep:sumN (fun i=>countK (T.M i) kd) (k+1)=sumN (fun i=>countK (T.M i) kd) k+countK (T.M k) kd:=rfl
    have HST:=hiq hstep
    clear hstep
    generalize sumN (fun i=>countK (T.M i) kd) k=s at *
    generalize countK (T.M k) kd=c at *
    go_wp2_with (go_at_call 133;(with_reducible refine (CN.out _ (KD.out.g k hlt)).mono ?_);rintro e w2 ⟨rfl,hb2⟩)
    go_roundw
    case rel=>exact ⟨k+1,by omega,by go_num,by rw [HST.out];go_num,hB.trans (hb2.mono hB.size)⟩
    case measure=>simp [intOf];omega
  · obtain rfl:k=T.n:=by omega
    go_wp2
    go_ret
    exact ⟨rfl,hB⟩
theorem dtleft_any {w:World} {lo hi D P cap:Nat} {GB:Nat→Nat} {T:TabS} {L:Int} (h:DT w lo hi D P cap GB T L) :
 Calls Tryz.prog 91 #[.pointer (some ⟨D,0,none⟩)] w fun e w'=>e = .returned (.int .i64 T.left)∧Below w.heap.size w w':=by
 obtain ⟨c0,-,zD,-⟩:=dcells h
 have hn:=h.good.bounds
 have C2:=hiq (fun (w':World) (h:DT w' lo hi D P cap GB T L)=>dtcount_any h 2)
 have C3:=hiq (fun (w':World) (h:DT w' lo hi D P cap GB T L)=>dtcount_any h 3)
 rw [←h.good.tb] at C2
 rw [←h.good.lv] at C3
 simp only [show ((2:Nat):Int)=2 from rfl] at C2
 simp only [show ((3:Nat):Int)=3 from rfl] at C3
 have HD:=hiq h
 unfold TabS.left
 generalize T.lv=lv at *
 generalize T.tb=tb at *
 have e1:7*(T.n:Int)-tb-lv=7*(T.n:Int)-lv-tb:=by omega
 have e2:IntKind.i64.wrap (7*(T.n:Int))=7*(T.n:Int):=by rw [IntKind.wrap_i64];omega
 have e3:IntKind.i64.wrap (7*(T.n:Int)-tb)=7*(T.n:Int)-tb:=by rw [IntKind.wrap_i64];omega
 have e4:IntKind.i64.wrap (7*(T.n:Int)-tb-lv)=7*(T.n:Int)-tb-lv:=by rw [IntKind.wrap_i64];omega
 rw [←e1]
 clear h e1
 go_enter Tryz.func91,Tryz.ntmps91
 go_wp2
 refine wp_region_seq (fun _=>False) #[⟨0,0,8,1,0⟩,⟨1,1,16,8,0⟩,⟨2,3,32,16,0⟩,⟨4,7,64,32,1⟩,⟨8,15,128,64,0⟩,⟨16,31,256,128,0⟩,⟨0,0,512,1,0⟩,⟨64,64,1024,512,2⟩,⟨160,255,2048,1280,0⟩,⟨0,0,4096,1,0⟩,⟨640,704,8192,4096,2⟩,⟨1280,2047,16384,10240,0⟩,⟨4095,4095,4,16384,0⟩] 8 [(0,0),(1,0),(2,0),(3,1),(4,0),(5,0),(6,0),(9,0),(7,2),(8,0),(10,2),(11,0),(12,0)] (by kernel_rfl) (by kernel_rfl) (by kernel_rfl) (by kernel_rfl) (by kernel_rfl) (by kernel_rfl) (fun c a d v w h=>by cases d <;> exact h) ?_
 refine zqC ?_;refine zqC ?_;refine zqC ?_
 refine zq1 Tryz.underlying96 ?_
 try refine zqP ?_;refine zqC ?_;refine zqC ?_;refine zqC ?_;refine zqC ?_
 refine zqD fun K hK=>?_;go_wp2_with (first|(go_at_call 134;(with_reducible refine (C2.out _ HD.out.drew).mono ?_);rintro e w2 ⟨rfl,hb2⟩)|(go_at_call 134;(with_reducible refine (C3.out _ (HD.out.drew.later hb2)).mono ?_);rintro e w3 ⟨rfl,hb3⟩));refine hkA hK (h:=?_);clear hK K
 try refine zqP ?_;refine zqC ?_
 refine zqD fun K hK=>?_;go_wp2_with (first|(go_at_call 134;(with_reducible refine (C2.out _ HD.out.drew).mono ?_);rintro e w2 ⟨rfl,hb2⟩)|(go_at_call 134;(with_reducible refine (C3.out _ (HD.out.drew.later hb2)).mono ?_);rintro e w3 ⟨rfl,hb3⟩));refine hkA hK (h:=?_);clear hK K
 try refine zqP ?_;refine zqC ?_;refine zqC ?_
 refine seq_nil ?_
 go_wp2
 go_ret
 exact ⟨rfl,(Below.undrew hb2).trans (hb3.mono hb2.size)⟩
structure DWh (wr:World) (lo hi D P cap:Nat) (GB:Nat→Nat) (T:TabS) (L:Int) (b0 h i:Nat) (o:Option Nat) (av:Value) (ords:List Int) (w:World):Prop where
 t:DT wr lo hi D P cap GB T L
 r0:Blk wr b0 153 #[.int .i64 0,.int .i64 0]
 r1:Blk wr (b0+1) 153 #[.int .i64 0,.int .i64 0]
 a:Blk wr (b0+1+1) 153 #[.int .i64 (-1),.int .i64 (-1)]
 f:Blk wr (b0+1+1+1) 153 #[.int .i64 (T.frG h o),.int .i64 (T.frK h o)]
 l:wr.ownsRow (b0+1+1+1+1) 3 1 av ords.length (ords.map (Value.int .i64))
 c:Chg (fun b=>b=D) w wr
section
variable {wr w' w:World} {lo hi D P cap:Nat} {GB:Nat→Nat} {T:TabS} {L:Int} {b0 h i:Nat} {o:Option Nat} {av:Value} {ords:List Int}
theorem DWh.later (hS:DWh wr lo hi D P cap GB T L b0 h i o av ords w) (hb:Below wr.heap.size wr w'):DWh w' lo hi D P cap GB T L b0 h i o av ords w :=
 ⟨hS.t.later hb,hS.r0.below hb hS.r0.lt,hS.r1.below hb hS.r1.lt,hS.a.below hb hS.a.lt,hS.f.below hb hS.f.lt,ownsRow_later hS.l hb,hS.c.thenBelow hb⟩
theorem cells2 {w:World} {C:Nat} {T:TypeId} {a b:Value} (h:Blk w C T #[a,b]):w.cell? ⟨C,0,none⟩=some a∧w.cell? ⟨C,1,none⟩=some b:=⟨h.cell 0,h.cell 1⟩
end
theorem dtwhere_any {w:World} {lo hi D P cap:Nat} {GB:Nat→Nat} {T:TabS} {L:Int} (hd:DT w lo hi D P cap GB T L) (hL:0≤L∧L≤1000000000) (key:Int) (h:Nat) (hh:h<18446744073709551616) :
 Calls Tryz.prog 89 #[.pointer (some ⟨D,0,none⟩),.int .u64 key,.int .u64 (h:Int)] w fun e w' =>
  e = .returned (.tuple #[.agg #[.int .i64 (T.atG key h),.int .i64 (T.atK key h)],.agg #[.int .i64 (T.frG h (T.freeJ key h)),.int .i64 (T.frK h (T.freeJ key h))]])∧
  DT w' lo hi D P cap GB T (L+T.looks key h)∧Chg (fun b=>b=D) w w':=by
 have hn:=hd.good.bounds
 have hr:=hd.good.right
 have hDz:=hd.head.lt
 have hiz:=hd.hz
 have HGD:=hiq hd.good.good
 have HD:=hiq hd
 obtain ⟨c0,c1,-,-⟩:=dcells hd
 have e128:(h:Int) / 128=((h / 128:Nat):Int):=by omega
 have h128:h / 128<18446744073709551616:=by omega
 have hoN:ordN (T.n:Int)=T.n:=by unfold ordN;rw [if_pos hr];simp
 obtain ⟨ords,hoL,hoG,hO⟩:∃ords:List Int,ords.length=T.n∧(∀i (hi:i<ords.length),ords[i]=((T.wk h i:Nat):Int))∧(∀w',Calls Tryz.prog 130 #[.int .u64 ((h / 128:Nat):Int),.int .i64 (T.n:Int)] w' fun e w'' => ∃v,e = .returned v∧w''.ownsRow w'.heap.size 3 1 v T.n (ords.map (Value.int .i64))∧Below w'.heap.size w' w'') :=
  ⟨ordL (h / 128) (T.n:Int),(ordL_length _ _).trans hoN,fun i hi=>by rw [ordL_get];unfold TabS.wk;rw [Int.toNat_natCast],fun w'=>by have:=refOrder_any (h / 128) (T.n:Int) h128 w';rw [hoN] at this;exact this⟩
 have OR:=hiq hO
 obtain ⟨u,hu⟩:=exq (h / 128)
 rw [←hu] at e128 OR
 have HWK:=hiq (show ∀i,T.wk h i<T.n from fun i=>walkAt_lt (h / 128) T.n i (by omega))
 have HOG:=hiq hoG
 clear hd hu h128 hoN hoG hO
 go_enter Tryz.func89,Tryz.ntmps89
 have zD1:D<w.heap.size+1:=by omega
 have zD2:D<w.heap.size+1+1:=by omega
 have zD3:D<w.heap.size+1+1+1:=by omega
 go_wp2_with (go_at_call 130;(with_reducible refine (OR.out _).mono ?_);rintro e w1 ⟨av,rfl,hr1,hb1⟩;obtain ⟨oa,ocap,rfl⟩:=ownsRow_slice hr1;have R1:=hiq hr1;have B1:=hiq hb1;have hz1:=hb1.size;clear hr1 hb1)
 refine wp_at (fun wL hwL=>?_)
 obtain ⟨b0,hb0⟩:=exq w.heap.size
 have D0:=hiq (show DWh wL lo hi D P cap GB T (L+(0:Nat)) b0 h 0 (T.fJ h 0) (.slice oa T.n ocap) ords w by
  rw [hwL,hb0,show L+((0:Nat):Int)=L by simp]
  refine ⟨HD.out.later ?_,?_,?_,?_,?_,?_,?_⟩
  · exact Below.trans (show Below w.heap.size w _ by go_grown) (B1.out.mono (by simp;omega))
  · exact ((((Blk.new w _ _).alloc _).alloc _).alloc _).below B1.out (by simp;omega)
  · exact (((Blk.new_at (by simp)).alloc _).alloc _).below B1.out (by simp)
  · exact ((Blk.new_at (by simp)).alloc _).below B1.out (by simp)
  · exact Blk.below (Blk.new_at (by simp)) B1.out (by simp)
  · rw [hoL];have:=R1.out;simpa using this
  · exact Chg.of_below (Below.trans (show Below w.heap.size w _ by go_grown) (B1.out.mono (by simp;omega))))
 have hbD:D<b0:=by omega
 have hib:hi≤b0:=by omega
 rw [←hb0]
 have HB0:=hiq hb0
 replace hwL:=hiq hwL
 clear hb0
 clear c0 c1 zD1 zD2 zD3 hz1 R1 B1 OR
 go_loopw [26] (fun v26 wr => ∃i:Nat,i≤T.n∧v26 = .int .i64 (i:Int)∧DWh wr lo hi D P cap GB T (L+(i:Nat)) b0 h i (T.fJ h i) (.slice oa T.n ocap) ords w∧∀j,j<i→T.stop key h (T.wk h j)=false) (fun v26 _=>T.n-(intOf v26).toNat)
 case atStart=>exact ⟨0,Nat.zero_le _,rfl,D0.out,fun j hj=>by omega⟩
 case round =>
  clear D0
  obtain ⟨i,hile,rfl,hS,hm⟩:=hrel
  have KS:=hiq hS
  have KM:=hiq hm
  clear hS hm
  by_cases hlt:i<T.n
  · have hiI:(i:Int)<(T.n:Int):=by omega
    obtain ⟨oa',ocap',e,hcs⟩:=(readsInts_own KS.out.l).cellsOf
    obtain ⟨e1,-,-⟩:=Value.slice.inj e
    obtain ⟨b,off,rfl,hcell⟩:=hcs i (by omega)
    subst e1
    have g0:=hcell wr (Below.refl _ _)
    rw [HOG.out i (by omega)] at g0
    have hbz:=World.block_lt_of_cell? _ _ g0
    have hx:=HWK.out i
    obtain ⟨d0,d1,zD,df⟩:=dcells KS.out.t
    have hdp:D≠P:=KS.out.t.dp
    have hpd:P≠D:=Ne.symm hdp
    have e1:IntKind.i64.wrap (L+(i:Int)+1)=L+((i+1:Nat):Int):=by rw [IntKind.wrap_i64];omega
    have HXE:Hid (T.wk h i=T.wk h i):=hiq rfl
    obtain ⟨x,hxe⟩:=exq (T.wk h i)
    rw [←hxe] at g0 hx
    have HX:=hiq hxe
    have p0:=KS.out.t.ptr x hx
    have zP:=KS.out.t.pz
    have zG:=(KS.out.t.g x hx).lt
    have hxI:(x:Int)<(T.n:Int):=by omega
    clear hxe HXE hcs hcell e
    go_upto_region 6 with (fail)
    refine wp_at (fun w2 hw2=>?_)
    have hC2:Chg (fun b=>b=D) wr (wr.setCell ⟨D,1,none⟩ (.int .i64 (L+((i+1:Nat):Int)))):=(Chg.refl _ _).set1 _ _
    have S2:=hiq (show DWh w2 lo hi D P cap GB T (L+((i+1:Nat):Int)) b0 h i (T.fJ h i) (.slice (some ⟨b,off,none⟩) T.n ocap) ords w by
     rw [hw2]
     exact ⟨KS.out.t.looks _,KS.out.r0.chg hC2 (by omega),KS.out.r1.chg hC2 (by omega),KS.out.a.chg hC2 (by omega),KS.out.f.chg hC2 (by omega),ownsRow_chg KS.out.l hC2 (fun b hb e=>by omega),KS.out.c.trans hC2⟩)
    obtain ⟨d20,d21,zD2,df2⟩:=dcells S2.out.t
    have p20:=S2.out.t.ptr x hx
    have zP2:=S2.out.t.pz
    have LE:=hiq (fun (w':World) (hd:DW w' (GB x) (T.M x) (T.S x))=>dleast_any (GB x) (T.M x) (T.S x) w' hd)
    rw [←free_scan] at LE
    replace hw2:=hiq hw2
    clear KS g0 d0 d1 zD df p0 zP zG hbz hC2
    go_upto_region 8 with (go_at_call 131;(with_reducible refine (LE.out _ (S2.out.t.g x hx)).mono ?_);rintro e w3 ⟨rfl,hb3⟩;have S3:=hiq (S2.out.later hb3))
    obtain ⟨f0,f1⟩:=cells2 S3.out.f
    have zf:=S3.out.f.lt
    have ff:=fun j=>S3.out.f.frozen j
    clear d20 d21 zD2 df2 p20 zP2
    obtain ⟨z,hz⟩:=exq (freeZ (T.M x))
    have HZ:Hid (z=freeZ (T.M (T.wk h i))):=hiq (by rw [hz,HX.out])
    rw [←hz]
    clear hz
    by_cases hz0:0≤z
    · cases ho:T.fJ h i with
      | none =>
       have hnew:=fJ_new ho (by rw [←HZ.out];exact hz0)
       rw [ho] at f0 f1 S3
       rw [(frG_none T h).1] at f0
       have HN:=hiq hnew
       have hC3:Chg (fun b=>b=b0+1+1+1) w3 ((w3.setCell ⟨b0+1+1+1,0,none⟩ (.int .i64 (x:Int))).setCell ⟨b0+1+1+1,1,none⟩ (.int .i64 z)):=((Chg.refl _ _).set1 _ _).set1 _ _
       have HC3:=hiq hC3
       clear ho hnew hC3
       go_upto_region 10 with (fail)
       refine wp_at (fun w4 hw4=>?_)
       have KC:=hiq (show DWh w4 lo hi D P cap GB T (L+((i+1:Nat):Int)) b0 h (i+1) (T.fJ h (i+1)) (.slice (some ⟨b,off,none⟩) T.n ocap) ords w by
        rw [hw4,HN.out]
        refine ⟨S3.out.t.chg HC3.out (fun b hb1 hb2 e=>by omega),S3.out.r0.chg HC3.out (by omega),S3.out.r1.chg HC3.out (by omega),S3.out.a.chg HC3.out (by omega),?_,ownsRow_chg S3.out.l HC3.out (fun b hb e=>by omega),S3.out.c.trans' HC3.out (fun b hb e=>?_)⟩
        · have:=(S3.out.f.set 0 (.int .i64 (x:Int))).set 1 (.int .i64 z)
          rw [(frG_some T h i).1,(frG_some T h i).2,←HZ.out,←HX.out]
          exact this
        · have:=HB0.out;omega)
       replace hw4:=hiq hw4
       clear S3 HN HC3 f0 f1 zf ff hz0
       have zG4:=(KC.out.t.g x hx).lt
       have FI:=hiq (fun (w':World) (hd:DW w' (GB x) (T.M x) (T.S x))=>dfind_any (GB x) (T.M x) h (T.S x) key (HGD.out x hx) hh w' hd)
       rw [←find_doc (HGD.out x hx)] at FI
       have HHT:Hid (T.hit key h (T.wk h i)=findZ (T.S x) key (lanesL (equalB (T.M x) (h % 128)))):=hiq (by rw [←HX.out];rfl)
       generalize findZ (T.S x) key (lanesL (equalB (T.M x) (h % 128)))=zf at *
       by_cases hzf:0≤zf
       · go_upto_region 12 with (go_at_call 132;(with_reducible refine (FI.out _ (KC.out.t.g x hx)).mono ?_);rintro e w5 ⟨rfl,hb5⟩;have S5:=hiq (KC.out.later hb5))
         have HWH:=hiq (where_hit hlt KM.out HHT.out hzf)
         obtain ⟨f0,f1⟩:=cells2 S5.out.f
         obtain ⟨a0,a1⟩:=cells2 S5.out.a
         have z0:=S5.out.r0.lt
         have z1:=S5.out.r1.lt
         have z2:=S5.out.a.lt
         have z3:=S5.out.f.lt
         have n0:=fun j=>S5.out.r0.frozen j
         have n1':=fun j=>S5.out.r1.frozen j
         obtain ⟨q0,q1⟩:=cells2 S5.out.r0
         obtain ⟨q2,q3⟩:=cells2 S5.out.r1
         refine wp_region_seq (fun b=>b=b0∨b=b0+1) #[⟨0,0,4611686018427387904,2048,0⟩,⟨0,0,9223372036854775808,16384,0⟩,⟨3,3,18446744073709551616,13835058055282163712,0⟩,⟨0,0,36893488147419103232,512,1⟩,⟨7,7,0,18446744073709551680,2⟩,⟨31,31,0,36893488147419103360,3⟩] 8 [(0,0),(1,0),(2,0),(3,1),(4,2),(5,3)] (by kernel_rfl) (by kernel_rfl) (by kernel_rfl) (by kernel_rfl) (by kernel_rfl) (by kernel_rfl) (fun c a d v w h=>by cases d <;> exact h) ?_
         refine zqC ?_;refine zqC ?_;refine zqC ?_
         refine zqL [_,_] Tryz.underlying153 ?_
         try refine zqP ?_
         refine zqD fun K hK=>?_;go_wp2_with (fail);refine hkA hK (h:=?_);clear hK K
         try refine zqP ?_
         refine zqE fun K hK=>?_;go_wp2_with (fail);refine hK.out _ _ ?_;clear hK K
         try refine zqP ?_
         refine seq_nil ?_
         go_wp2
         refine wp_end_at (fun Wf hWf=>?_)
         have hR0:Blk Wf b0 153 #[.int .i64 ((x:Int)),.int .i64 (zf)]:=by rw [hWf];exact Blk.drew ((((S5.out.r0.set 0 _).set 1 _).other (by omega) _ _).other (by omega) _ _)
         have hR1:Blk Wf (b0+1) 153 #[.int .i64 (T.frG h (T.fJ h (i+1))),.int .i64 (T.frK h (T.fJ h (i+1)))]:=by rw [hWf];exact Blk.drew ((((S5.out.r1.other (by omega) _ _).other (by omega) _ _).set 0 _).set 1 _)
         have hC:Chg (fun b=>b=b0∨b=b0+1) w5 Wf:=by rw [hWf];exact (((((Chg.refl _ _).setCell (.inl (.inl rfl)) _).setCell (.inl (.inl rfl)) _).setCell (.inl (.inr rfl)) _).setCell (.inl (.inr rfl)) _).drew
         obtain ⟨x0,x1⟩:=cells2 hR0
         obtain ⟨y0,y1⟩:=cells2 hR1
         obtain ⟨hl1,hl2,hl3,hl4⟩:=HWH.out
         rw [hl1,hl2,hl3,hl4]
         exact bodyPost_ret (v := .tuple #[.agg #[.int .i64 ((x:Int)),.int .i64 (zf)],.agg #[.int .i64 (T.frG h (T.fJ h (i+1))),.int .i64 (T.frK h (T.fJ h (i+1)))]]) (by simp [results,Tryz.results89,go_sem,x0,x1,y0,y1]) rfl
          ⟨by first|rfl|rw [←HX.out]|rw [HX.out],S5.out.t.chg hC (fun b h1 h2=>by rintro (e|e) <;> omega),S5.out.c.trans' hC (fun b hb e=>by have:=HB0.out;rcases e with e|e <;> omega)⟩
       · have hzf1:zf<0:=by omega
         have CN:=hiq (fun (w':World) (h:DW w' (GB x) (T.M x) (T.S x))=>dcount_any (GB x) (T.M x) 1 (T.S x) w' h)
         simp only [show ((1:Nat):Int)=1 from rfl] at CN
         have o1:decide (((countK (T.M x) 1:Nat):Int) > 0)=openB (T.M x):=by rw [open_count,Bool.eq_iff_iff];simp
         generalize ((countK (T.M x) 1:Nat):Int)=n1 at CN o1
         cases hop:openB (T.M x) with
         | true =>
          rw [hop] at o1
          have HWH:=hiq (where_miss hlt KM.out (by rw [HHT.out];exact hzf1) (by rw [←HX.out];exact hop))
          clear hop
          go_upto_region 15 with (first
           | (go_at_call 132;(with_reducible refine (FI.out _ (KC.out.t.g x hx)).mono ?_);rintro e w5 ⟨rfl,hb5⟩;have S5:=hiq (KC.out.later hb5))
           | (go_at_call 133;(with_reducible refine (CN.out _ (S5.out.t.g x hx)).mono ?_);rintro e w6 ⟨rfl,hb6⟩;have S6:=hiq (S5.out.later hb6)))
          obtain ⟨f0,f1⟩:=cells2 S6.out.f
          obtain ⟨a0,a1⟩:=cells2 S6.out.a
          have z0:=S6.out.r0.lt
          have z1:=S6.out.r1.lt
          have z2:=S6.out.a.lt
          have z3:=S6.out.f.lt
          have n0:=fun j=>S6.out.r0.frozen j
          have n1':=fun j=>S6.out.r1.frozen j
          obtain ⟨q0,q1⟩:=cells2 S6.out.r0
          obtain ⟨q2,q3⟩:=cells2 S6.out.r1
          refine wp_region_seq (fun b=>b=b0∨b=b0+1) #[⟨0,0,2^70,256,1⟩,⟨0,0,2^71,512,1⟩,⟨1,1,0,(2^6+2^70),2⟩,⟨7,7,0,(2^7+2^71),3⟩] 3 [(0,1),(1,1),(2,2),(3,3)] (by kernel_rfl) (by kernel_rfl) (by kernel_rfl) (by kernel_rfl) (by kernel_rfl) (by kernel_rfl) (fun c a d v w h=>by cases d <;> exact h) ?_
          refine zqL [_,_] Tryz.underlying153 ?_
          try refine zqP ?_
          refine zqL [_,_] Tryz.underlying153 ?_
          try refine zqP ?_
          refine zqD fun K hK=>?_;go_wp2_with (fail);refine hkA hK (h:=?_);clear hK K
          try refine zqP ?_
          refine zqE fun K hK=>?_;go_wp2_with (fail);refine hK.out _ _ ?_;clear hK K
          try refine zqP ?_
          refine seq_nil ?_
          go_wp2
          refine wp_end_at (fun Wf hWf=>?_)
          have hR0:Blk Wf b0 153 #[.int .i64 (-1),.int .i64 (-1)]:=by rw [hWf];exact Blk.drew ((((S6.out.r0.set 0 _).set 1 _).other (by omega) _ _).other (by omega) _ _)
          have hR1:Blk Wf (b0+1) 153 #[.int .i64 (T.frG h (T.fJ h (i+1))),.int .i64 (T.frK h (T.fJ h (i+1)))]:=by rw [hWf];exact Blk.drew ((((S6.out.r1.other (by omega) _ _).other (by omega) _ _).set 0 _).set 1 _)
          have hC:Chg (fun b=>b=b0∨b=b0+1) w6 Wf:=by rw [hWf];exact (((((Chg.refl _ _).setCell (.inl (.inl rfl)) _).setCell (.inl (.inl rfl)) _).setCell (.inl (.inr rfl)) _).setCell (.inl (.inr rfl)) _).drew
          obtain ⟨x0,x1⟩:=cells2 hR0
          obtain ⟨y0,y1⟩:=cells2 hR1
          obtain ⟨hl1,hl2,hl3,hl4⟩:=HWH.out
          rw [hl1,hl2,hl3,hl4]
          exact bodyPost_ret (v := .tuple #[.agg #[.int .i64 (-1),.int .i64 (-1)],.agg #[.int .i64 (T.frG h (T.fJ h (i+1))),.int .i64 (T.frK h (T.fJ h (i+1)))]]) (by simp [results,Tryz.results89,go_sem,x0,x1,y0,y1]) rfl
           ⟨by first|rfl|rw [←HX.out]|rw [HX.out],S6.out.t.chg hC (fun b h1 h2=>by rintro (e|e) <;> omega),S6.out.c.trans' hC (fun b hb e=>by have:=HB0.out;rcases e with e|e <;> omega)⟩
         | false =>
          rw [hop] at o1
          have HST:=hiq (stop_no (T:=T) (key:=key) (h:=h) (g:=T.wk h i) (by rw [HHT.out];exact hzf1) (by rw [←HX.out];exact hop))
          clear hop
          go_wp2_with (first
           | (go_at_call 132;(with_reducible refine (FI.out _ (KC.out.t.g x hx)).mono ?_);rintro e w5 ⟨rfl,hb5⟩;have S5:=hiq (KC.out.later hb5))
           | (go_at_call 133;(with_reducible refine (CN.out _ (S5.out.t.g x hx)).mono ?_);rintro e w6 ⟨rfl,hb6⟩;have S6:=hiq (S5.out.later hb6)))
          go_roundw
          case rel=>exact ⟨i+1,by omega,by go_num,S6.out,fun j hj=>by
           by_cases e:j=i
           · subst e;exact HST.out
           · exact KM.out j (by omega)⟩
          case measure=>simp [intOf];omega
      | some j =>
       have hnew:=fJ_some ho
       rw [ho] at f0 f1 S3
       rw [(frG_some T h j).1] at f0
       have HN:=hiq hnew
       have e2:decide (((T.wk h j:Nat):Int)<0)=false:=by simp
       clear ho hnew
       go_upto_region 10 with (fail)
       refine wp_at (fun w4 hw4=>?_)
       have KC:=hiq (show DWh w4 lo hi D P cap GB T (L+((i+1:Nat):Int)) b0 h (i+1) (T.fJ h (i+1)) (.slice (some ⟨b,off,none⟩) T.n ocap) ords w by
        rw [hw4,HN.out]
        exact ⟨S3.out.t,S3.out.r0,S3.out.r1,S3.out.a,S3.out.f,S3.out.l,S3.out.c⟩)
       replace hw4:=hiq hw4
       clear S3 HN f0 f1 zf ff hz0 e2
       have zG4:=(KC.out.t.g x hx).lt
       have FI:=hiq (fun (w':World) (hd:DW w' (GB x) (T.M x) (T.S x))=>dfind_any (GB x) (T.M x) h (T.S x) key (HGD.out x hx) hh w' hd)
       rw [←find_doc (HGD.out x hx)] at FI
       have HHT:Hid (T.hit key h (T.wk h i)=findZ (T.S x) key (lanesL (equalB (T.M x) (h % 128)))):=hiq (by rw [←HX.out];rfl)
       generalize findZ (T.S x) key (lanesL (equalB (T.M x) (h % 128)))=zf at *
       by_cases hzf:0≤zf
       · go_upto_region 12 with (go_at_call 132;(with_reducible refine (FI.out _ (KC.out.t.g x hx)).mono ?_);rintro e w5 ⟨rfl,hb5⟩;have S5:=hiq (KC.out.later hb5))
         have HWH:=hiq (where_hit hlt KM.out HHT.out hzf)
         obtain ⟨f0,f1⟩:=cells2 S5.out.f
         obtain ⟨a0,a1⟩:=cells2 S5.out.a
         have z0:=S5.out.r0.lt
         have z1:=S5.out.r1.lt
         have z2:=S5.out.a.lt
         have z3:=S5.out.f.lt
         have n0:=fun j=>S5.out.r0.frozen j
         have n1':=fun j=>S5.out.r1.frozen j
         obtain ⟨q0,q1⟩:=cells2 S5.out.r0
         obtain ⟨q2,q3⟩:=cells2 S5.out.r1
         refine wp_region_seq (fun b=>b=b0∨b=b0+1) #[⟨0,0,4611686018427387904,2048,0⟩,⟨0,0,9223372036854775808,16384,0⟩,⟨3,3,18446744073709551616,13835058055282163712,0⟩,⟨0,0,36893488147419103232,512,1⟩,⟨7,7,0,18446744073709551680,2⟩,⟨31,31,0,36893488147419103360,3⟩] 8 [(0,0),(1,0),(2,0),(3,1),(4,2),(5,3)] (by kernel_rfl) (by kernel_rfl) (by kernel_rfl) (by kernel_rfl) (by kernel_rfl) (by kernel_rfl) (fun c a d v w h=>by cases d <;> exact h) ?_
         refine zqC ?_;refine zqC ?_;refine zqC ?_
         refine zqL [_,_] Tryz.underlying153 ?_
         try refine zqP ?_
         refine zqD fun K hK=>?_;go_wp2_with (fail);refine hkA hK (h:=?_);clear hK K
         try refine zqP ?_
         refine zqE fun K hK=>?_;go_wp2_with (fail);refine hK.out _ _ ?_;clear hK K
         try refine zqP ?_
         refine seq_nil ?_
         go_wp2
         refine wp_end_at (fun Wf hWf=>?_)
         have hR0:Blk Wf b0 153 #[.int .i64 ((x:Int)),.int .i64 (zf)]:=by rw [hWf];exact Blk.drew ((((S5.out.r0.set 0 _).set 1 _).other (by omega) _ _).other (by omega) _ _)
         have hR1:Blk Wf (b0+1) 153 #[.int .i64 (T.frG h (T.fJ h (i+1))),.int .i64 (T.frK h (T.fJ h (i+1)))]:=by rw [hWf];exact Blk.drew ((((S5.out.r1.other (by omega) _ _).other (by omega) _ _).set 0 _).set 1 _)
         have hC:Chg (fun b=>b=b0∨b=b0+1) w5 Wf:=by rw [hWf];exact (((((Chg.refl _ _).setCell (.inl (.inl rfl)) _).setCell (.inl (.inl rfl)) _).setCell (.inl (.inr rfl)) _).setCell (.inl (.inr rfl)) _).drew
         obtain ⟨x0,x1⟩:=cells2 hR0
         obtain ⟨y0,y1⟩:=cells2 hR1
         obtain ⟨hl1,hl2,hl3,hl4⟩:=HWH.out
         rw [hl1,hl2,hl3,hl4]
         exact bodyPost_ret (v := .tuple #[.agg #[.int .i64 ((x:Int)),.int .i64 (zf)],.agg #[.int .i64 (T.frG h (T.fJ h (i+1))),.int .i64 (T.frK h (T.fJ h (i+1)))]]) (by simp [results,Tryz.results89,go_sem,x0,x1,y0,y1]) rfl
          ⟨by first|rfl|rw [←HX.out]|rw [HX.out],S5.out.t.chg hC (fun b h1 h2=>by rintro (e|e) <;> omega),S5.out.c.trans' hC (fun b hb e=>by have:=HB0.out;rcases e with e|e <;> omega)⟩
       · have hzf1:zf<0:=by omega
         have CN:=hiq (fun (w':World) (h:DW w' (GB x) (T.M x) (T.S x))=>dcount_any (GB x) (T.M x) 1 (T.S x) w' h)
         simp only [show ((1:Nat):Int)=1 from rfl] at CN
         have o1:decide (((countK (T.M x) 1:Nat):Int) > 0)=openB (T.M x):=by rw [open_count,Bool.eq_iff_iff];simp
         generalize ((countK (T.M x) 1:Nat):Int)=n1 at CN o1
         cases hop:openB (T.M x) with
         | true =>
          rw [hop] at o1
          have HWH:=hiq (where_miss hlt KM.out (by rw [HHT.out];exact hzf1) (by rw [←HX.out];exact hop))
          clear hop
          go_upto_region 15 with (first
           | (go_at_call 132;(with_reducible refine (FI.out _ (KC.out.t.g x hx)).mono ?_);rintro e w5 ⟨rfl,hb5⟩;have S5:=hiq (KC.out.later hb5))
           | (go_at_call 133;(with_reducible refine (CN.out _ (S5.out.t.g x hx)).mono ?_);rintro e w6 ⟨rfl,hb6⟩;have S6:=hiq (S5.out.later hb6)))
          obtain ⟨f0,f1⟩:=cells2 S6.out.f
          obtain ⟨a0,a1⟩:=cells2 S6.out.a
          have z0:=S6.out.r0.lt
          have z1:=S6.out.r1.lt
          have z2:=S6.out.a.lt
          have z3:=S6.out.f.lt
          have n0:=fun j=>S6.out.r0.frozen j
          have n1':=fun j=>S6.out.r1.frozen j
          obtain ⟨q0,q1⟩:=cells2 S6.out.r0
          obtain ⟨q2,q3⟩:=cells2 S6.out.r1
          refine wp_region_seq (fun b=>b=b0∨b=b0+1) #[⟨0,0,2^70,256,1⟩,⟨0,0,2^71,512,1⟩,⟨1,1,0,(2^6+2^70),2⟩,⟨7,7,0,(2^7+2^71),3⟩] 3 [(0,1),(1,1),(2,2),(3,3)] (by kernel_rfl) (by kernel_rfl) (by kernel_rfl) (by kernel_rfl) (by kernel_rfl) (by kernel_rfl) (fun c a d v w h=>by cases d <;> exact h) ?_
          refine zqL [_,_] Tryz.underlying153 ?_
          try refine zqP ?_
          refine zqL [_,_] Tryz.underlying153 ?_
          try refine zqP ?_
          refine zqD fun K hK=>?_;go_wp2_with (fail);refine hkA hK (h:=?_);clear hK K
          try refine zqP ?_
          refine zqE fun K hK=>?_;go_wp2_with (fail);refine hK.out _ _ ?_;clear hK K
          try refine zqP ?_
          refine seq_nil ?_
          go_wp2
          refine wp_end_at (fun Wf hWf=>?_)
          have hR0:Blk Wf b0 153 #[.int .i64 (-1),.int .i64 (-1)]:=by rw [hWf];exact Blk.drew ((((S6.out.r0.set 0 _).set 1 _).other (by omega) _ _).other (by omega) _ _)
          have hR1:Blk Wf (b0+1) 153 #[.int .i64 (T.frG h (T.fJ h (i+1))),.int .i64 (T.frK h (T.fJ h (i+1)))]:=by rw [hWf];exact Blk.drew ((((S6.out.r1.other (by omega) _ _).other (by omega) _ _).set 0 _).set 1 _)
          have hC:Chg (fun b=>b=b0∨b=b0+1) w6 Wf:=by rw [hWf];exact (((((Chg.refl _ _).setCell (.inl (.inl rfl)) _).setCell (.inl (.inl rfl)) _).setCell (.inl (.inr rfl)) _).setCell (.inl (.inr rfl)) _).drew
          obtain ⟨x0,x1⟩:=cells2 hR0
          obtain ⟨y0,y1⟩:=cells2 hR1
          obtain ⟨hl1,hl2,hl3,hl4⟩:=HWH.out
          rw [hl1,hl2,hl3,hl4]
          exact bodyPost_ret (v := .tuple #[.agg #[.int .i64 (-1),.int .i64 (-1)],.agg #[.int .i64 (T.frG h (T.fJ h (i+1))),.int .i64 (T.frK h (T.fJ h (i+1)))]]) (by simp [results,Tryz.results89,go_sem,x0,x1,y0,y1]) rfl
           ⟨by first|rfl|rw [←HX.out]|rw [HX.out],S6.out.t.chg hC (fun b h1 h2=>by rintro (e|e) <;> omega),S6.out.c.trans' hC (fun b hb e=>by have:=HB0.out;rcases e with e|e <;> omega)⟩
         | false =>
          rw [hop] at o1
          have HST:=hiq (stop_no (T:=T) (key:=key) (h:=h) (g:=T.wk h i) (by rw [HHT.out];exact hzf1) (by rw [←HX.out];exact hop))
          clear hop
          go_wp2_with (first
           | (go_at_call 132;(with_reducible refine (FI.out _ (KC.out.t.g x hx)).mono ?_);rintro e w5 ⟨rfl,hb5⟩;have S5:=hiq (KC.out.later hb5))
           | (go_at_call 133;(with_reducible refine (CN.out _ (S5.out.t.g x hx)).mono ?_);rintro e w6 ⟨rfl,hb6⟩;have S6:=hiq (S5.out.later hb6)))
          go_roundw
          case rel=>exact ⟨i+1,by omega,by go_num,S6.out,fun j hj=>by
           by_cases e:j=i
           · subst e;exact HST.out
           · exact KM.out j (by omega)⟩
          case measure=>simp [intOf];omega
    · have hnew:=fJ_no (T:=T) (h:=h) (i:=i) (by rw [←HZ.out];omega)
      have HN:=hiq hnew
      have hz1:z<0:=by omega
      clear hnew f0 f1
      go_upto_region 10 with (fail)
      refine wp_at (fun w4 hw4=>?_)
      have KC:=hiq (show DWh w4 lo hi D P cap GB T (L+((i+1:Nat):Int)) b0 h (i+1) (T.fJ h (i+1)) (.slice (some ⟨b,off,none⟩) T.n ocap) ords w by
       rw [hw4,HN.out]
       exact ⟨S3.out.t,S3.out.r0,S3.out.r1,S3.out.a,S3.out.f,S3.out.l,S3.out.c⟩)
      replace hw4:=hiq hw4
      clear S3 HN zf ff hz0 hz1
      have zG4:=(KC.out.t.g x hx).lt
      have FI:=hiq (fun (w':World) (hd:DW w' (GB x) (T.M x) (T.S x))=>dfind_any (GB x) (T.M x) h (T.S x) key (HGD.out x hx) hh w' hd)
      rw [←find_doc (HGD.out x hx)] at FI
      have HHT:Hid (T.hit key h (T.wk h i)=findZ (T.S x) key (lanesL (equalB (T.M x) (h % 128)))):=hiq (by rw [←HX.out];rfl)
      generalize findZ (T.S x) key (lanesL (equalB (T.M x) (h % 128)))=zf at *
      by_cases hzf:0≤zf
      · go_upto_region 12 with (go_at_call 132;(with_reducible refine (FI.out _ (KC.out.t.g x hx)).mono ?_);rintro e w5 ⟨rfl,hb5⟩;have S5:=hiq (KC.out.later hb5))
        have HWH:=hiq (where_hit hlt KM.out HHT.out hzf)
        obtain ⟨f0,f1⟩:=cells2 S5.out.f
        obtain ⟨a0,a1⟩:=cells2 S5.out.a
        have z0:=S5.out.r0.lt
        have z1:=S5.out.r1.lt
        have z2:=S5.out.a.lt
        have z3:=S5.out.f.lt
        have n0:=fun j=>S5.out.r0.frozen j
        have n1':=fun j=>S5.out.r1.frozen j
        obtain ⟨q0,q1⟩:=cells2 S5.out.r0
        obtain ⟨q2,q3⟩:=cells2 S5.out.r1
        refine wp_region_seq (fun b=>b=b0∨b=b0+1) #[⟨0,0,4611686018427387904,2048,0⟩,⟨0,0,9223372036854775808,16384,0⟩,⟨3,3,18446744073709551616,13835058055282163712,0⟩,⟨0,0,36893488147419103232,512,1⟩,⟨7,7,0,18446744073709551680,2⟩,⟨31,31,0,36893488147419103360,3⟩] 8 [(0,0),(1,0),(2,0),(3,1),(4,2),(5,3)] (by kernel_rfl) (by kernel_rfl) (by kernel_rfl) (by kernel_rfl) (by kernel_rfl) (by kernel_rfl) (fun c a d v w h=>by cases d <;> exact h) ?_
        refine zqC ?_;refine zqC ?_;refine zqC ?_
        refine zqL [_,_] Tryz.underlying153 ?_
        try refine zqP ?_
        refine zqD fun K hK=>?_;go_wp2_with (fail);refine hkA hK (h:=?_);clear hK K
        try refine zqP ?_
        refine zqE fun K hK=>?_;go_wp2_with (fail);refine hK.out _ _ ?_;clear hK K
        try refine zqP ?_
        refine seq_nil ?_
        go_wp2
        refine wp_end_at (fun Wf hWf=>?_)
        have hR0:Blk Wf b0 153 #[.int .i64 ((x:Int)),.int .i64 (zf)]:=by rw [hWf];exact Blk.drew ((((S5.out.r0.set 0 _).set 1 _).other (by omega) _ _).other (by omega) _ _)
        have hR1:Blk Wf (b0+1) 153 #[.int .i64 (T.frG h (T.fJ h (i+1))),.int .i64 (T.frK h (T.fJ h (i+1)))]:=by rw [hWf];exact Blk.drew ((((S5.out.r1.other (by omega) _ _).other (by omega) _ _).set 0 _).set 1 _)
        have hC:Chg (fun b=>b=b0∨b=b0+1) w5 Wf:=by rw [hWf];exact (((((Chg.refl _ _).setCell (.inl (.inl rfl)) _).setCell (.inl (.inl rfl)) _).setCell (.inl (.inr rfl)) _).setCell (.inl (.inr rfl)) _).drew
        obtain ⟨x0,x1⟩:=cells2 hR0
        obtain ⟨y0,y1⟩:=cells2 hR1
        obtain ⟨hl1,hl2,hl3,hl4⟩:=HWH.out
        rw [hl1,hl2,hl3,hl4]
        exact bodyPost_ret (v := .tuple #[.agg #[.int .i64 ((x:Int)),.int .i64 (zf)],.agg #[.int .i64 (T.frG h (T.fJ h (i+1))),.int .i64 (T.frK h (T.fJ h (i+1)))]]) (by simp [results,Tryz.results89,go_sem,x0,x1,y0,y1]) rfl
         ⟨by first|rfl|rw [←HX.out]|rw [HX.out],S5.out.t.chg hC (fun b h1 h2=>by rintro (e|e) <;> omega),S5.out.c.trans' hC (fun b hb e=>by have:=HB0.out;rcases e with e|e <;> omega)⟩
      · have hzf1:zf<0:=by omega
        have CN:=hiq (fun (w':World) (h:DW w' (GB x) (T.M x) (T.S x))=>dcount_any (GB x) (T.M x) 1 (T.S x) w' h)
        simp only [show ((1:Nat):Int)=1 from rfl] at CN
        have o1:decide (((countK (T.M x) 1:Nat):Int) > 0)=openB (T.M x):=by rw [open_count,Bool.eq_iff_iff];simp
        generalize ((countK (T.M x) 1:Nat):Int)=n1 at CN o1
        cases hop:openB (T.M x) with
        | true =>
         rw [hop] at o1
         have HWH:=hiq (where_miss hlt KM.out (by rw [HHT.out];exact hzf1) (by rw [←HX.out];exact hop))
         clear hop
         go_upto_region 15 with (first
          | (go_at_call 132;(with_reducible refine (FI.out _ (KC.out.t.g x hx)).mono ?_);rintro e w5 ⟨rfl,hb5⟩;have S5:=hiq (KC.out.later hb5))
          | (go_at_call 133;(with_reducible refine (CN.out _ (S5.out.t.g x hx)).mono ?_);rintro e w6 ⟨rfl,hb6⟩;have S6:=hiq (S5.out.later hb6)))
         obtain ⟨f0,f1⟩:=cells2 S6.out.f
         obtain ⟨a0,a1⟩:=cells2 S6.out.a
         have z0:=S6.out.r0.lt
         have z1:=S6.out.r1.lt
         have z2:=S6.out.a.lt
         have z3:=S6.out.f.lt
         have n0:=fun j=>S6.out.r0.frozen j
         have n1':=fun j=>S6.out.r1.frozen j
         obtain ⟨q0,q1⟩:=cells2 S6.out.r0
         obtain ⟨q2,q3⟩:=cells2 S6.out.r1
         refine wp_region_seq (fun b=>b=b0∨b=b0+1) #[⟨0,0,2^70,256,1⟩,⟨0,0,2^71,512,1⟩,⟨1,1,0,(2^6+2^70),2⟩,⟨7,7,0,(2^7+2^71),3⟩] 3 [(0,1),(1,1),(2,2),(3,3)] (by kernel_rfl) (by kernel_rfl) (by kernel_rfl) (by kernel_rfl) (by kernel_rfl) (by kernel_rfl) (fun c a d v w h=>by cases d <;> exact h) ?_
         refine zqL [_,_] Tryz.underlying153 ?_
         try refine zqP ?_
         refine zqL [_,_] Tryz.underlying153 ?_
         try refine zqP ?_
         refine zqD fun K hK=>?_;go_wp2_with (fail);refine hkA hK (h:=?_);clear hK K
         try refine zqP ?_
         refine zqE fun K hK=>?_;go_wp2_with (fail);refine hK.out _ _ ?_;clear hK K
         try refine zqP ?_
         refine seq_nil ?_
         go_wp2
         refine wp_end_at (fun Wf hWf=>?_)
         have hR0:Blk Wf b0 153 #[.int .i64 (-1),.int .i64 (-1)]:=by rw [hWf];exact Blk.drew ((((S6.out.r0.set 0 _).set 1 _).other (by omega) _ _).other (by omega) _ _)
         have hR1:Blk Wf (b0+1) 153 #[.int .i64 (T.frG h (T.fJ h (i+1))),.int .i64 (T.frK h (T.fJ h (i+1)))]:=by rw [hWf];exact Blk.drew ((((S6.out.r1.other (by omega) _ _).other (by omega) _ _).set 0 _).set 1 _)
         have hC:Chg (fun b=>b=b0∨b=b0+1) w6 Wf:=by rw [hWf];exact (((((Chg.refl _ _).setCell (.inl (.inl rfl)) _).setCell (.inl (.inl rfl)) _).setCell (.inl (.inr rfl)) _).setCell (.inl (.inr rfl)) _).drew
         obtain ⟨x0,x1⟩:=cells2 hR0
         obtain ⟨y0,y1⟩:=cells2 hR1
         obtain ⟨hl1,hl2,hl3,hl4⟩:=HWH.out
         rw [hl1,hl2,hl3,hl4]
         exact bodyPost_ret (v := .tuple #[.agg #[.int .i64 (-1),.int .i64 (-1)],.agg #[.int .i64 (T.frG h (T.fJ h (i+1))),.int .i64 (T.frK h (T.fJ h (i+1)))]]) (by simp [results,Tryz.results89,go_sem,x0,x1,y0,y1]) rfl
          ⟨by first|rfl|rw [←HX.out]|rw [HX.out],S6.out.t.chg hC (fun b h1 h2=>by rintro (e|e) <;> omega),S6.out.c.trans' hC (fun b hb e=>by have:=HB0.out;rcases e with e|e <;> omega)⟩
        | false =>
         rw [hop] at o1
         have HST:=hiq (stop_no (T:=T) (key:=key) (h:=h) (g:=T.wk h i) (by rw [HHT.out];exact hzf1) (by rw [←HX.out];exact hop))
         clear hop
         go_wp2_with (first
          | (go_at_call 132;(with_reducible refine (FI.out _ (KC.out.t.g x hx)).mono ?_);rintro e w5 ⟨rfl,hb5⟩;have S5:=hiq (KC.out.later hb5))
          | (go_at_call 133;(with_reducible refine (CN.out _ (S5.out.t.g x hx)).mono ?_);rintro e w6 ⟨rfl,hb6⟩;have S6:=hiq (S5.out.later hb6)))
         go_roundw
         case rel=>exact ⟨i+1,by omega,by go_num,S6.out,fun j hj=>by
          by_cases e:j=i
          · subst e;exact HST.out
          · exact KM.out j (by omega)⟩
         case measure=>simp [intOf];omega
  · obtain rfl:i=T.n:=by omega
    have HWH:=hiq (where_end (by omega) KM.out)
    have HX:=hiq (rfl:T.wk h 0=T.wk h 0)
    go_upto_region 15 with (fail)
    obtain ⟨f0,f1⟩:=cells2 KS.out.f
    obtain ⟨a0,a1⟩:=cells2 KS.out.a
    have z0:=KS.out.r0.lt
    have z1:=KS.out.r1.lt
    have z2:=KS.out.a.lt
    have z3:=KS.out.f.lt
    have n0:=fun j=>KS.out.r0.frozen j
    have n1':=fun j=>KS.out.r1.frozen j
    obtain ⟨q0,q1⟩:=cells2 KS.out.r0
    obtain ⟨q2,q3⟩:=cells2 KS.out.r1
    refine wp_region_seq (fun b=>b=b0∨b=b0+1) #[⟨0,0,2^70,256,1⟩,⟨0,0,2^71,512,1⟩,⟨1,1,0,(2^6+2^70),2⟩,⟨7,7,0,(2^7+2^71),3⟩] 3 [(0,1),(1,1),(2,2),(3,3)] (by kernel_rfl) (by kernel_rfl) (by kernel_rfl) (by kernel_rfl) (by kernel_rfl) (by kernel_rfl) (fun c a d v w h=>by cases d <;> exact h) ?_
    refine zqL [_,_] Tryz.underlying153 ?_
    try refine zqP ?_
    refine zqL [_,_] Tryz.underlying153 ?_
    try refine zqP ?_
    refine zqD fun K hK=>?_;go_wp2_with (fail);refine hkA hK (h:=?_);clear hK K
    try refine zqP ?_
    refine zqE fun K hK=>?_;go_wp2_with (fail);refine hK.out _ _ ?_;clear hK K
    try refine zqP ?_
    refine seq_nil ?_
    go_wp2
    refine wp_end_at (fun Wf hWf=>?_)
    have hR0:Blk Wf b0 153 #[.int .i64 (-1),.int .i64 (-1)]:=by rw [hWf];exact Blk.drew ((((KS.out.r0.set 0 _).set 1 _).other (by omega) _ _).other (by omega) _ _)
    have hR1:Blk Wf (b0+1) 153 #[.int .i64 (T.frG h (T.fJ h T.n)),.int .i64 (T.frK h (T.fJ h T.n))]:=by rw [hWf];exact Blk.drew ((((KS.out.r1.other (by omega) _ _).other (by omega) _ _).set 0 _).set 1 _)
    have hC:Chg (fun b=>b=b0∨b=b0+1) wr Wf:=by rw [hWf];exact (((((Chg.refl _ _).setCell (.inl (.inl rfl)) _).setCell (.inl (.inl rfl)) _).setCell (.inl (.inr rfl)) _).setCell (.inl (.inr rfl)) _).drew
    obtain ⟨x0,x1⟩:=cells2 hR0
    obtain ⟨y0,y1⟩:=cells2 hR1
    obtain ⟨hl1,hl2,hl3,hl4⟩:=HWH.out
    rw [hl1,hl2,hl3,hl4]
    exact bodyPost_ret (v := .tuple #[.agg #[.int .i64 (-1),.int .i64 (-1)],.agg #[.int .i64 (T.frG h (T.fJ h T.n)),.int .i64 (T.frK h (T.fJ h T.n))]]) (by simp [results,Tryz.results89,go_sem,x0,x1,y0,y1]) rfl
     ⟨by first|rfl|rw [←HX.out]|rw [HX.out],KS.out.t.chg hC (fun b h1 h2=>by rintro (e|e) <;> omega),KS.out.c.trans' hC (fun b hb e=>by have:=HB0.out;rcases e with e|e <;> omega)⟩
section
variable {w:World} {lo hi D P cap:Nat} {GB:Nat→Nat} {T:TabS} {L:Int}
theorem dtfind_any (hd:DT w lo hi D P cap GB T L) (hL:0≤L∧L≤1000000000) (key:Int) (h:Nat) (hh:h<18446744073709551616) :
 Calls Tryz.prog 59 #[.pointer (some ⟨D,0,none⟩),.int .u64 key,.int .u64 (h:Int)] w fun e w' =>
  e = .returned (.tuple #[.agg #[.int .u64 (T.ent key h).key,.int .u64 (T.ent key h).val,.int .u64 (T.ent key h).hash],.bool (T.has key h)])∧DT w' lo hi D P cap GB T (L+T.looks key h)∧Chg (fun b=>b=D) w w':=by
 have WH:=hiq (fun (w':World) (h':DT w' lo hi D P cap GB T L)=>dtwhere_any h' hL key h hh)
 have HD:=hiq hd
 have hhi:=hd.hz
 obtain ⟨b0,hb0⟩:=exq w.heap.size
 cases hhas:T.has key h with
 | false =>
  have e1:T.atG key h = -1:=by unfold TabS.atG;rw [hhas];rfl
  have e2:T.ent key h=EntS.zero:=TFun.ent_not hhas
  rw [e1] at WH
  rw [e2]
  simp only [EntS.zero]
  generalize T.atK key h=ak at *
  generalize T.frG h (T.freeJ key h)=fg at *
  generalize T.frK h (T.freeJ key h)=fk at *
  have zD:=hd.head.lt
  clear hd hhas e1 e2 hb0
  go_enter Tryz.func59,Tryz.ntmps59
  go_wp2_with (go_at_call 89;(with_reducible refine (WH.out _ (HD.out.alloc _)).mono ?_);rintro e w1 ⟨rfl,hd1,hc1⟩;have D1:=hiq hd1;have C1:=hiq hc1;have E1:=hiq ((Blk.new w 41 #[.int .u64 0,.int .u64 0,.int .u64 0]).chg hc1 (by omega));obtain ⟨e0,e1,e2⟩:=cells3 E1.out;have zE:=E1.out.lt;have fE:=fun j=>E1.out.frozen j;clear hd1 hc1)
  refine wp_end_at (fun Wf hWf=>?_)
  have hC:Chg (fun b=>b=w.heap.size) w1 Wf:=by rw [hWf];exact (((((Chg.refl _ _).set1 _ _).set1 _ _).set1 _ _).alloc _).alloc _
  have hR:Blk Wf w.heap.size 41 #[.int .u64 0,.int .u64 0,.int .u64 0]:=by rw [hWf];exact ((((E1.out.set 0 _).set 1 _).set 2 _).alloc _).alloc _
  obtain ⟨r0,r1,r2⟩:=cells3 hR
  exact bodyPost_ret (v := .tuple #[.agg #[.int .u64 0,.int .u64 0,.int .u64 0],.bool false]) (by simp [results,Tryz.results59,go_sem,r0,r1,r2]) rfl
   ⟨rfl,D1.out.chg hC (fun b h1 h2=>by omega),((Chg.of_below (show Below w.heap.size w _ by go_grown)).trans C1.out).trans' hC (fun b hb e=>by omega)⟩
 | true =>
  obtain ⟨k,hz,hk,hg,-⟩:=hd.good.at' hhas
  have e1:T.atG key h=((T.lastG key h:Nat):Int):=by unfold TabS.atG;rw [if_pos hhas]
  have e2:T.atK key h=(k:Int):=by unfold TabS.atK;rw [if_pos hhas,hz]
  have e3:T.ent key h=T.S (T.lastG key h) k:=by unfold TabS.ent;rw [hz,if_pos (by omega),Int.toNat_natCast]
  rw [e1,e2] at WH
  rw [e3]
  generalize T.lastG key h=x at *
  generalize T.frG h (T.freeJ key h)=fg at *
  generalize T.frK h (T.freeJ key h)=fk at *
  have zD:=hd.head.lt
  have hkI:(k:Int)<8:=by omega
  have hxI:(x:Int)<(T.n:Int):=by omega
  clear hd hhas e1 e2 e3 hz hb0
  go_enter Tryz.func59,Tryz.ntmps59
  go_upto_region 4 with (go_at_call 89;(with_reducible refine (WH.out _ (HD.out.alloc _)).mono ?_);rintro e w1 ⟨rfl,hd1,hc1⟩;have D1:=hiq hd1;have C1:=hiq hc1;have E1:=hiq ((Blk.new w 41 #[.int .u64 0,.int .u64 0,.int .u64 0]).chg hc1 (by omega));clear hd1 hc1)
  refine wp_at (fun w2 hw2=>?_)
  have hB2:Below w1.heap.size w1 w2:=by rw [hw2];go_grown
  have D2:=hiq (D1.out.later hB2)
  have E2:=hiq (E1.out.below hB2 E1.out.lt)
  have C2:=hiq (((Chg.of_below (show Below w.heap.size w _ by go_grown)).trans C1.out).thenBelow hB2)
  have A2:=hiq (show Blk w2 w1.heap.size 153 #[.int .i64 (x:Int),.int .i64 (k:Int)] by rw [hw2];exact (Blk.new _ _ _).alloc _)
  obtain ⟨e0,e1,e2⟩:=cells3 E2.out
  have zE:=E2.out.lt
  have fE:=fun j=>E2.out.frozen j
  obtain ⟨a0,a1⟩:=cells2 A2.out
  have zA:=A2.out.lt
  obtain ⟨d0,-,zD2,-⟩:=dcells D2.out
  have p0:=D2.out.ptr x hg
  have zP:=D2.out.pz
  obtain ⟨-,g1,g2,g3⟩:=(D2.out.g x hg).cells k hk
  have zG:=(D2.out.g x hg).lt
  have hzw:w.heap.size≤w1.heap.size:=by have:=C1.out.size;simp at this;omega
  have hGE:GB x≠w.heap.size:=by have:=(D2.out.ig x hg).2;omega
  have hPE:P≠w.heap.size:=by have:=D2.out.ip.2;omega
  have hAE:w1.heap.size≠w.heap.size:=by have:=E1.out.lt;omega
  have hDE:D≠w.heap.size:=by omega
  replace hw2:=hiq hw2
  clear hB2 E1 C1 D1
  refine wp_region_seq (fun b=>b=w.heap.size) #[⟨0,0,2097152,1,0⟩,⟨1,1,4194304,2097152,0⟩,⟨2,3,8388608,4194304,0⟩,⟨4,7,16777216,8388608,1⟩,⟨0,0,33554432,256,0⟩,⟨16,16,67108864,33554432,1⟩,⟨40,63,134217728,83886080,0⟩,⟨64,127,268435456,134217728,1⟩,⟨0,0,536870912,256,0⟩,⟨256,256,1073741824,536870912,1⟩,⟨128,255,2147483648,268435456,0⟩,⟨1024,1279,4294967296,2147483648,0⟩,⟨2560,4095,8589934592,5368709120,0⟩,⟨4096,8191,17179869184,8589934592,0⟩,⟨8192,16383,34359738368,17179869184,1⟩,⟨32767,32767,0,34359738432,3⟩,⟨65535,65535,128,0,0⟩] 17064 [(0,0),(1,0),(2,0),(3,1),(4,0),(5,1),(6,0),(7,1),(8,0),(9,1),(10,0),(11,0),(12,0),(13,0),(14,1),(15,3),(16,0)] (by kernel_rfl) (by kernel_rfl) (by kernel_rfl) (by kernel_rfl) (by kernel_rfl) (by kernel_rfl) (fun c a d v w h=>by cases d <;> exact h) ?_
  refine zqC ?_;refine zqC ?_;refine zqC ?_
  refine zq1 Tryz.underlying96 ?_
  try refine zqP ?_;refine zqC ?_
  refine zq1 Tryz.underlying3 ?_
  try refine zqP ?_;refine zqC ?_
  refine zq1 Tryz.underlying137 ?_
  try refine zqP ?_;refine zqC ?_
  refine zq1 Tryz.underlying3 ?_
  try refine zqP ?_;refine zqC ?_;refine zqC ?_;refine zqC ?_;refine zqC ?_
  refine zqL [_,_,_] Tryz.underlying41 ?_
  try refine zqP ?_
  refine zqE fun K hK=>?_;go_wp2_with (fail);refine hK.out _ _ ?_;clear hK K
  try refine zqP ?_;refine zqC ?_
  refine seq_nil ?_
  go_wp2
  refine wp_end_at (fun Wf hWf=>?_)
  have hC:Chg (fun b=>b=w.heap.size) w2 Wf:=by rw [hWf];exact ((((Chg.refl _ _).set1 _ _).set1 _ _).set1 _ _).drew
  have hR:Blk Wf w.heap.size 41 #[.int .u64 (T.S x k).key,.int .u64 (T.S x k).val,.int .u64 (T.S x k).hash]:=by rw [hWf];exact Blk.drew (((E2.out.set 0 _).set 1 _).set 2 _)
  obtain ⟨r0,r1,r2⟩:=cells3 hR
  exact bodyPost_ret (v := .tuple #[.agg #[.int .u64 (T.S x k).key,.int .u64 (T.S x k).val,.int .u64 (T.S x k).hash],.bool true]) (by simp [results,Tryz.results59,go_sem,r0,r1,r2]) rfl
   ⟨rfl,D2.out.chg hC (fun b h1 h2=>by omega),C2.out.trans' hC (fun b hb e=>by omega)⟩
theorem dtput_any (hd:DT w lo hi D P cap GB T L) (hL:0≤L∧L≤1000000000) (key v:Int) (h:Nat) (hh:h<18446744073709551616) :
 Calls Tryz.prog 46 #[.pointer (some ⟨D,0,none⟩),.agg #[.int .u64 key,.int .u64 v,.int .u64 (h:Int)]] w fun e w' =>
  e = .returned (.tuple #[.bool (T.putB key h),.int .i64 ((T.putN key h:Nat):Int)])∧DT w' lo hi D P cap GB (T.putT key v h) (L+T.looks key h)∧Chg (fun b=>lo≤b∧b<hi) w w':=by
 have WH:=hiq (fun (w':World) (h':DT w' lo hi D P cap GB T L)=>dtwhere_any h' hL key h hh)
 have HD:=hiq hd
 have hhi:=hd.hz
 have zD:=hd.head.lt
 have HGD:=hiq hd.good
 cases hhas:T.has key h with
 | true =>
  obtain ⟨k,hz,hk,hg,hfl,-⟩:=hd.good.at' hhas
  have e1:T.atG key h=((T.lastG key h:Nat):Int):=by unfold TabS.atG;rw [if_pos hhas]
  have e2:T.atK key h=(k:Int):=by unfold TabS.atK;rw [if_pos hhas,hz]
  have e3:T.putT key v h=T.setV (T.lastG key h) k v:=by unfold TabS.putT;rw [if_pos hhas,hz,Int.toNat_natCast]
  have e4:T.putB key h=false:=by unfold TabS.putB;rw [hhas];rfl
  have e5:T.putN key h=0:=by unfold TabS.putN;rw [if_pos (.inl hhas)]
  rw [e1,e2] at WH
  rw [e3,e4,e5]
  have ST:=hiq (fun (w':World) (h':DW w' (GB (T.lastG key h)) (T.M (T.lastG key h)) (T.S (T.lastG key h)))=>dset_ok (GB (T.lastG key h)) (T.M (T.lastG key h)) k (T.S (T.lastG key h)) v hk hfl w' h')
  generalize T.lastG key h=x at *
  generalize T.frG h (T.freeJ key h)=fg at *
  generalize T.frK h (T.freeJ key h)=fk at *
  have hxI:(x:Int)<(T.n:Int):=by omega
  have hkI:(k:Int)<8:=by omega
  clear hd hhas e1 e2 e3 e4 e5 hz hfl
  go_enter Tryz.func46,Tryz.ntmps46
  go_upto_region 3 with (go_at_call 89;(with_reducible refine (WH.out _ (HD.out.alloc _)).mono ?_);rintro e w1 ⟨rfl,hd1,hc1⟩;have D1:=hiq hd1;have C1:=hiq hc1;have E1:=hiq ((Blk.new w 41 #[.int .u64 key,.int .u64 v,.int .u64 (h:Int)]).chg hc1 (by omega));have q1:=cells3 E1.out;have q10:=q1.1;have q11:=q1.2.1;have q12:=q1.2.2;clear q1;have zE1:=E1.out.lt;clear hd1 hc1)
  refine wp_at (fun w2 hw2=>?_)
  have hB2:Below w1.heap.size w1 w2:=by rw [hw2];go_grown
  have D2:=hiq (D1.out.later hB2)
  have E2:=hiq (E1.out.below hB2 E1.out.lt)
  have C2:=hiq (((Chg.of_below (show Below w.heap.size w _ by go_grown)).trans C1.out).thenBelow hB2)
  have A2:=hiq (show Blk w2 w1.heap.size 153 #[.int .i64 ((x:Int)),.int .i64 ((k:Int))] by rw [hw2];exact (Blk.new _ _ _).alloc _)
  have F2:=hiq (show Blk w2 (w1.heap.size+1) 153 #[.int .i64 (fg),.int .i64 (fk)] by rw [hw2];exact Blk.new_at (by simp))
  obtain ⟨e0,e1,e2⟩:=cells3 E2.out
  have zE:=E2.out.lt
  obtain ⟨a0,a1⟩:=cells2 A2.out
  have zA:=A2.out.lt
  obtain ⟨b0,b1⟩:=cells2 F2.out
  have zF:=F2.out.lt
  obtain ⟨d0,-,zD2,-⟩:=dcells D2.out
  have zP:=D2.out.pz
  have hiD:=D2.out.id
  replace hw2:=hiq hw2
  clear hB2 E1 C1 D1
  have p0:=D2.out.ptr x hg
  have hGx:=(D2.out.ig x hg)
  refine wp_region_seq (fun _=>False) #[⟨0,0,1048576,1,0⟩,⟨1,1,2097152,1048576,0⟩,⟨2,3,4194304,2097152,0⟩,⟨4,7,8388608,4194304,1⟩,⟨0,0,16777216,64,0⟩,⟨16,16,33554432,16777216,1⟩,⟨40,63,67108864,41943040,0⟩,⟨64,127,134217728,67108864,1⟩,⟨0,0,268435456,64,0⟩,⟨256,256,536870912,268435456,1⟩,⟨0,0,1073741824,8,0⟩,⟨1024,1024,2147483648,1073741824,1⟩,⟨2688,4095,4294967296,2818572288,3⟩] 2728 [(0,0),(1,0),(2,0),(3,1),(4,0),(5,1),(6,0),(7,1),(8,0),(9,1),(10,0),(11,1),(12,3)] (by kernel_rfl) (by kernel_rfl) (by kernel_rfl) (by kernel_rfl) (by kernel_rfl) (by kernel_rfl) (fun c a d v w h=>by cases d <;> exact h) ?_
  refine zqC ?_;refine zqC ?_;refine zqC ?_
  refine zq1 Tryz.underlying96 ?_
  try refine zqP ?_;refine zqC ?_
  refine zq1 Tryz.underlying3 ?_
  try refine zqP ?_;refine zqC ?_
  refine zq1 Tryz.underlying137 ?_
  try refine zqP ?_;refine zqC ?_
  refine zq1 Tryz.underlying3 ?_
  try refine zqP ?_;refine zqC ?_
  refine zq1 Tryz.underlying39 ?_
  try refine zqP ?_
  refine zqE fun K hK=>?_;go_wp2_with (go_at_call 90;((with_reducible refine (ST.out _ (D2.out.drew.g x hg)).mono ?_);rintro e w3 ⟨rfl,hg3,hc3⟩;have D3:=hiq (D2.out.drew.group hg (T':=T.setV x k v) rfl (by rw [show (T.setV x k v).S x=putS (T.S x) k { T.S x k with val:=v} from upd_same _ _ _];exact hg3) hc3 (fun j hj=>⟨rfl,upd_other _ _ hj⟩) (HGD.out.setV hg v));have C3:=hiq (show Chg (fun b=>lo≤b∧b<hi) w w3 from (C2.out.drew.mono (fun b _ e=>by subst e;exact hiD)).trans (hc3.mono (fun b _ e=>by subst e;exact hGx)));clear hg3));refine hK.out _ _ ?_;clear hK K
  try refine zqP ?_
  refine seq_nil ?_
  go_wp2
  go_ret2
  exact ⟨rfl,D3.out,C3.out⟩
 | false =>
  have e1:T.atG key h = -1:=by unfold TabS.atG;rw [hhas];rfl
  have LF:=hiq (fun (w':World) (h':DT w' lo hi D P cap GB T (L+T.looks key h))=>dtleft_any h')
  rw [e1] at WH
  generalize T.atK key h=ak at *
  cases hfr:T.freeJ key h with
  | none =>
   have hrm:T.room key h=false:=by unfold TabS.room;rw [frK_is,hfr];simp [TabS.frK]
   have e3:T.putT key v h=T:=by unfold TabS.putT;rw [hhas,hrm];rfl
   have e4:T.putB key h=false:=by unfold TabS.putB;rw [hrm,Bool.and_false]
   have e5:T.putN key h=2:=by unfold TabS.putN;rw [hhas,hrm];rfl
   rw [hfr,(frG_none T h).1] at WH
   generalize T.frK h none=fk at *
   rw [e3,e4,e5]
   have hiD:=hd.id
   generalize T.left=left at *
   clear hd hhas e1 e3 e4 e5 hrm hfr
   by_cases hl:left<1
   · go_enter Tryz.func46,Tryz.ntmps46
     go_upto_region 5 with (go_at_call 89;(with_reducible refine (WH.out _ (HD.out.alloc _)).mono ?_);rintro e w1 ⟨rfl,hd1,hc1⟩;have D1:=hiq hd1;have C1:=hiq hc1;have E1:=hiq ((Blk.new w 41 #[.int .u64 key,.int .u64 v,.int .u64 (h:Int)]).chg hc1 (by omega));have q1:=cells3 E1.out;have q10:=q1.1;have q11:=q1.2.1;have q12:=q1.2.2;clear q1;have zE1:=E1.out.lt;clear hd1 hc1)
     refine wp_at (fun w2 hw2=>?_)
     have hB2:Below w1.heap.size w1 w2:=by rw [hw2];go_grown
     have D2:=hiq (D1.out.later hB2)
     have E2:=hiq (E1.out.below hB2 E1.out.lt)
     have C2:=hiq (((Chg.of_below (show Below w.heap.size w _ by go_grown)).trans C1.out).thenBelow hB2)
     have A2:=hiq (show Blk w2 w1.heap.size 153 #[.int .i64 (-1),.int .i64 (ak)] by rw [hw2];exact (Blk.new _ _ _).alloc _)
     have F2:=hiq (show Blk w2 (w1.heap.size+1) 153 #[.int .i64 (-1),.int .i64 (fk)] by rw [hw2];exact Blk.new_at (by simp))
     obtain ⟨e0,e1,e2⟩:=cells3 E2.out
     have zE:=E2.out.lt
     obtain ⟨a0,a1⟩:=cells2 A2.out
     have zA:=A2.out.lt
     obtain ⟨b0,b1⟩:=cells2 F2.out
     have zF:=F2.out.lt
     obtain ⟨d0,-,zD2,-⟩:=dcells D2.out
     have zP:=D2.out.pz
     have hiD:=D2.out.id
     replace hw2:=hiq hw2
     clear hB2 E1 C1 D1
     go_wp2_with (go_at_call 91;(with_reducible refine (LF.out _ D2.out).mono ?_);rintro e w3 ⟨rfl,hb3⟩)
     go_ret2
     exact ⟨rfl,D2.out.later hb3,(C2.out.mono (fun b _ e=>by subst e;exact hiD)).thenBelow hb3⟩
   · have hl1:1≤left:=by omega
     go_enter Tryz.func46,Tryz.ntmps46
     go_upto_region 5 with (go_at_call 89;(with_reducible refine (WH.out _ (HD.out.alloc _)).mono ?_);rintro e w1 ⟨rfl,hd1,hc1⟩;have D1:=hiq hd1;have C1:=hiq hc1;have E1:=hiq ((Blk.new w 41 #[.int .u64 key,.int .u64 v,.int .u64 (h:Int)]).chg hc1 (by omega));have q1:=cells3 E1.out;have q10:=q1.1;have q11:=q1.2.1;have q12:=q1.2.2;clear q1;have zE1:=E1.out.lt;clear hd1 hc1)
     refine wp_at (fun w2 hw2=>?_)
     have hB2:Below w1.heap.size w1 w2:=by rw [hw2];go_grown
     have D2:=hiq (D1.out.later hB2)
     have E2:=hiq (E1.out.below hB2 E1.out.lt)
     have C2:=hiq (((Chg.of_below (show Below w.heap.size w _ by go_grown)).trans C1.out).thenBelow hB2)
     have A2:=hiq (show Blk w2 w1.heap.size 153 #[.int .i64 (-1),.int .i64 (ak)] by rw [hw2];exact (Blk.new _ _ _).alloc _)
     have F2:=hiq (show Blk w2 (w1.heap.size+1) 153 #[.int .i64 (-1),.int .i64 (fk)] by rw [hw2];exact Blk.new_at (by simp))
     obtain ⟨e0,e1,e2⟩:=cells3 E2.out
     have zE:=E2.out.lt
     obtain ⟨a0,a1⟩:=cells2 A2.out
     have zA:=A2.out.lt
     obtain ⟨b0,b1⟩:=cells2 F2.out
     have zF:=F2.out.lt
     obtain ⟨d0,-,zD2,-⟩:=dcells D2.out
     have zP:=D2.out.pz
     have hiD:=D2.out.id
     replace hw2:=hiq hw2
     clear hB2 E1 C1 D1
     go_wp2_with (go_at_call 91;(with_reducible refine (LF.out _ D2.out).mono ?_);rintro e w3 ⟨rfl,hb3⟩;have F3:=F2.out.below hb3 F2.out.lt;have b30:=F3.cell 0;have zF3:=F3.lt)
     go_ret2
     exact ⟨rfl,D2.out.later hb3,(C2.out.mono (fun b _ e=>by subst e;exact hiD)).thenBelow hb3⟩
  | some j =>
   have hz0:0≤T.frZ key h:=by rw [frK_is,hfr];exact (firstJ_some (show firstJ _ _=some j from hfr)).2.1
   obtain ⟨k,hz,hk,hg,hfl⟩:=hd.good.free' hz0
   have hfG:T.freeG key h=T.wk h j:=by unfold TabS.freeG;rw [hfr]
   have hfK:T.frK h (some j)=(k:Int):=by rw [←hfr,←frK_is,hz]
   rw [hfr,(frG_some T h j).1,hfK] at WH
   rw [hfG] at hg hfl
   have hrm:T.room key h=decide (1≤T.left):=by unfold TabS.room;rw [hz];simp
   by_cases hl:T.left<1
   · have hrm':T.room key h=false:=by rw [hrm];simp;omega
     have e3:T.putT key v h=T:=by unfold TabS.putT;rw [hhas,hrm'];rfl
     have e4:T.putB key h=false:=by unfold TabS.putB;rw [hrm',Bool.and_false]
     have e5:T.putN key h=2:=by unfold TabS.putN;rw [hhas,hrm'];rfl
     rw [e3,e4,e5]
     have hiD:=hd.id
     generalize T.wk h j=x at *
     generalize T.left=left at *
     clear hd hhas e1 e3 e4 e5 hrm hrm' hfr hz hz0 hfG hfK hfl
     go_enter Tryz.func46,Tryz.ntmps46
     go_upto_region 5 with (go_at_call 89;(with_reducible refine (WH.out _ (HD.out.alloc _)).mono ?_);rintro e w1 ⟨rfl,hd1,hc1⟩;have D1:=hiq hd1;have C1:=hiq hc1;have E1:=hiq ((Blk.new w 41 #[.int .u64 key,.int .u64 v,.int .u64 (h:Int)]).chg hc1 (by omega));have q1:=cells3 E1.out;have q10:=q1.1;have q11:=q1.2.1;have q12:=q1.2.2;clear q1;have zE1:=E1.out.lt;clear hd1 hc1)
     refine wp_at (fun w2 hw2=>?_)
     have hB2:Below w1.heap.size w1 w2:=by rw [hw2];go_grown
     have D2:=hiq (D1.out.later hB2)
     have E2:=hiq (E1.out.below hB2 E1.out.lt)
     have C2:=hiq (((Chg.of_below (show Below w.heap.size w _ by go_grown)).trans C1.out).thenBelow hB2)
     have A2:=hiq (show Blk w2 w1.heap.size 153 #[.int .i64 (-1),.int .i64 (ak)] by rw [hw2];exact (Blk.new _ _ _).alloc _)
     have F2:=hiq (show Blk w2 (w1.heap.size+1) 153 #[.int .i64 (x),.int .i64 (k)] by rw [hw2];exact Blk.new_at (by simp))
     obtain ⟨e0,e1,e2⟩:=cells3 E2.out
     have zE:=E2.out.lt
     obtain ⟨a0,a1⟩:=cells2 A2.out
     have zA:=A2.out.lt
     obtain ⟨b0,b1⟩:=cells2 F2.out
     have zF:=F2.out.lt
     obtain ⟨d0,-,zD2,-⟩:=dcells D2.out
     have zP:=D2.out.pz
     have hiD:=D2.out.id
     replace hw2:=hiq hw2
     clear hB2 E1 C1 D1
     go_wp2_with (go_at_call 91;(with_reducible refine (LF.out _ D2.out).mono ?_);rintro e w3 ⟨rfl,hb3⟩)
     go_ret2
     exact ⟨rfl,D2.out.later hb3,(C2.out.mono (fun b _ e=>by subst e;exact hiD)).thenBelow hb3⟩
   · have hl1:1≤T.left:=by omega
     have hrm':T.room key h=true:=by rw [hrm];simpa using hl1
     have e3:T.putT key v h=T.ins (T.wk h j) k ⟨key,v,h⟩ h:=by unfold TabS.putT;rw [hhas,hrm',hz,hfG,Int.toNat_natCast];rfl
     have e4:T.putB key h=true:=by unfold TabS.putB;rw [hrm',hhas];rfl
     have e5:T.putN key h=0:=by unfold TabS.putN;rw [if_pos (.inr hrm')]
     rw [e3,e4,e5]
     have PT:=hiq (fun (w':World) (h':DW w' (GB (T.wk h j)) (T.M (T.wk h j)) (T.S (T.wk h j)))=>dput_ok (GB (T.wk h j)) (T.M (T.wk h j)) k h (T.S (T.wk h j)) key v hh hk hfl w' h')
     have HFL:=hiq hfl
     generalize T.wk h j=x at *
     have HLE:=hiq hl1
     obtain ⟨left,hle⟩:=exq T.left
     rw [←hle] at LF hl1
     have hxI:(x:Int)<(T.n:Int):=by omega
     have hkI:(k:Int)<8:=by omega
     clear hd hhas e1 e3 e4 e5 hrm hrm' hfr hz hz0 hfG hfK hfl hl hle
     go_enter Tryz.func46,Tryz.ntmps46
     go_upto_region 5 with (go_at_call 89;(with_reducible refine (WH.out _ (HD.out.alloc _)).mono ?_);rintro e w1 ⟨rfl,hd1,hc1⟩;have D1:=hiq hd1;have C1:=hiq hc1;have E1:=hiq ((Blk.new w 41 #[.int .u64 key,.int .u64 v,.int .u64 (h:Int)]).chg hc1 (by omega));have q1:=cells3 E1.out;have q10:=q1.1;have q11:=q1.2.1;have q12:=q1.2.2;clear q1;have zE1:=E1.out.lt;clear hd1 hc1)
     refine wp_at (fun w2 hw2=>?_)
     have hB2:Below w1.heap.size w1 w2:=by rw [hw2];go_grown
     have D2:=hiq (D1.out.later hB2)
     have E2:=hiq (E1.out.below hB2 E1.out.lt)
     have C2:=hiq (((Chg.of_below (show Below w.heap.size w _ by go_grown)).trans C1.out).thenBelow hB2)
     have A2:=hiq (show Blk w2 w1.heap.size 153 #[.int .i64 (-1),.int .i64 (ak)] by rw [hw2];exact (Blk.new _ _ _).alloc _)
     have F2:=hiq (show Blk w2 (w1.heap.size+1) 153 #[.int .i64 ((x:Int)),.int .i64 ((k:Int))] by rw [hw2];exact Blk.new_at (by simp))
     obtain ⟨e0,e1,e2⟩:=cells3 E2.out
     have zE:=E2.out.lt
     obtain ⟨a0,a1⟩:=cells2 A2.out
     have zA:=A2.out.lt
     obtain ⟨b0,b1⟩:=cells2 F2.out
     have zF:=F2.out.lt
     obtain ⟨d0,-,zD2,-⟩:=dcells D2.out
     have zP:=D2.out.pz
     have hiD:=D2.out.id
     replace hw2:=hiq hw2
     clear hB2 E1 C1 D1
     go_upto_region 7 with (go_at_call 91;(with_reducible refine (LF.out _ D2.out).mono ?_);rintro e w3 ⟨rfl,hb3⟩;have D3:=hiq (D2.out.later hb3);have E3:=hiq (E2.out.below hb3 E2.out.lt);have F3:=hiq (F2.out.below hb3 F2.out.lt);have C3:=hiq (C2.out.thenBelow hb3);have b30:=F3.out.cell 0;have b31:=F3.out.cell 1;have zF3:=F3.out.lt;have e30:=E3.out.cell 0;have e31:=E3.out.cell 1;have e32:=E3.out.cell 2;have zE3:=E3.out.lt)
     obtain ⟨d30,-,zD3,-⟩:=dcells D3.out
     have p0:=D3.out.ptr x hg
     have zP3:=D3.out.pz
     have hGx:=D3.out.ig x hg
     refine wp_region_seq (fun _=>False) #[⟨0,0,2199023255552,1,0⟩,⟨1,1,4398046511104,2199023255552,0⟩,⟨2,3,8796093022208,4398046511104,0⟩,⟨4,7,17592186044416,8796093022208,1⟩,⟨0,0,35184372088832,128,0⟩,⟨16,16,70368744177664,35184372088832,1⟩,⟨40,63,140737488355328,87960930222080,0⟩,⟨64,127,281474976710656,140737488355328,1⟩,⟨0,0,562949953421312,128,0⟩,⟨256,256,1125899906842624,562949953421312,1⟩,⟨0,0,2251799813685248,8,1⟩,⟨1664,2047,4503599627370496,3659174697238528,3⟩] 1704 [(0,0),(1,0),(2,0),(3,1),(4,0),(5,1),(6,0),(7,1),(8,0),(9,1),(10,1),(11,3)] (by kernel_rfl) (by kernel_rfl) (by kernel_rfl) (by kernel_rfl) (by kernel_rfl) (by kernel_rfl) (fun c a d v w h=>by cases d <;> exact h) ?_
     refine zqC ?_;refine zqC ?_;refine zqC ?_
     refine zq1 Tryz.underlying96 ?_
     try refine zqP ?_;refine zqC ?_
     refine zq1 Tryz.underlying3 ?_
     try refine zqP ?_;refine zqC ?_
     refine zq1 Tryz.underlying137 ?_
     try refine zqP ?_;refine zqC ?_
     refine zq1 Tryz.underlying3 ?_
     try refine zqP ?_
     refine zqL [_,_,_] Tryz.underlying41 ?_
     try refine zqP ?_
     refine zqE fun K hK=>?_;go_wp2_with (go_at_call 92;((with_reducible refine (PT.out _ (D3.out.drew.g x hg)).mono ?_);rintro e w4 ⟨rfl,hg4,hc4⟩;have D4:=hiq (D3.out.drew.group hg (T':=T.ins x k ⟨key,v,h⟩ h) rfl (by rw [show (T.ins x k ⟨key,v,h⟩ h).M x=setL (T.M x) k (h % 128) from upd_same _ _ _,show (T.ins x k ⟨key,v,h⟩ h).S x=putS (T.S x) k ⟨key,v,h⟩ from upd_same _ _ _];exact hg4) hc4 (fun j hj=>⟨upd_other _ _ hj,upd_other _ _ hj⟩) (HGD.out.ins hg hk HFL.out key v hh));have C4:=hiq (show Chg (fun b=>lo≤b∧b<hi) w w4 from (C3.out.drew.mono (fun b _ e=>by subst e;exact hiD)).trans (hc4.mono (fun b _ e=>by subst e;exact hGx)));clear hg4));refine hK.out _ _ ?_;clear hK K
     try refine zqP ?_
     refine seq_nil ?_
     go_wp2
     go_ret2
     exact ⟨rfl,D4.out,C4.out⟩
end
section
variable {w:World} {lo hi D P cap:Nat} {GB:Nat→Nat} {T:TabS} {L:Int}
theorem DT.era {w w':World} (h:DT w lo hi D P cap GB T L) {x k:Nat} (hx:x<T.n) (hk:k<8) (hf:fullE (T.M x) (k:Int) true=0) (hg:DW w' (GB x) (setL (T.M x) k (goneN (T.M x))) (putS (T.S x) k EntS.zero)) (hc:Chg (fun b=>b=GB x) w w') :
 DT w' lo hi D P cap GB (T.era x k) L :=
 h.group hx (T':=T.era x k) rfl (by rw [show (T.era x k).M x=setL (T.M x) k (goneN (T.M x)) from upd_same _ _ _,show (T.era x k).S x=putS (T.S x) k EntS.zero from upd_same _ _ _];exact hg) hc (fun j hj=>⟨upd_other _ _ hj,upd_other _ _ hj⟩) (h.good.era hx hk hf)
theorem dtdel_any (hd:DT w lo hi D P cap GB T L) (hL:0≤L∧L≤1000000000) (key:Int) (h:Nat) (hh:h<18446744073709551616) :
 Calls Tryz.prog 58 #[.pointer (some ⟨D,0,none⟩),.int .u64 key,.int .u64 (h:Int)] w fun e w' =>
  e = .returned (.tuple #[.agg #[.int .u64 (T.ent key h).key,.int .u64 (T.ent key h).val,.int .u64 (T.ent key h).hash],.bool (T.has key h)])∧DT w' lo hi D P cap GB (T.delT key h) (L+T.looks key h)∧Chg (fun b=>lo≤b∧b<hi) w w':=by
 have WH:=hiq (fun (w':World) (h':DT w' lo hi D P cap GB T L)=>dtwhere_any h' hL key h hh)
 have HD:=hiq hd
 have hhi:=hd.hz
 have hiD:=hd.id
 cases hhas:T.has key h with
 | false =>
  have e1:T.atG key h = -1:=by unfold TabS.atG;rw [hhas];rfl
  have e2:T.ent key h=EntS.zero:=TFun.ent_not hhas
  have e3:T.delT key h=T:=by unfold TabS.delT;rw [hhas];rfl
  rw [e1] at WH
  rw [e2,e3]
  simp only [EntS.zero]
  generalize T.atK key h=ak at *
  generalize T.frG h (T.freeJ key h)=fg at *
  generalize T.frK h (T.freeJ key h)=fk at *
  have zD:=hd.head.lt
  clear hd hhas e1 e2 e3
  go_enter Tryz.func58,Tryz.ntmps58
  go_wp2_with (go_at_call 89;(with_reducible refine (WH.out _ (HD.out.alloc _)).mono ?_);rintro e w1 ⟨rfl,hd1,hc1⟩;have D1:=hiq hd1;have C1:=hiq hc1;have E1:=hiq ((Blk.new w 41 #[.int .u64 0,.int .u64 0,.int .u64 0]).chg hc1 (by omega));obtain ⟨e0,e1,e2⟩:=cells3 E1.out;have zE:=E1.out.lt;have fE:=fun j=>E1.out.frozen j;clear hd1 hc1)
  refine wp_end_at (fun Wf hWf=>?_)
  have hC:Chg (fun b=>b=w.heap.size) w1 Wf:=by rw [hWf];exact (((((Chg.refl _ _).set1 _ _).set1 _ _).set1 _ _).alloc _).alloc _
  have hR:Blk Wf w.heap.size 41 #[.int .u64 0,.int .u64 0,.int .u64 0]:=by rw [hWf];exact ((((E1.out.set 0 _).set 1 _).set 2 _).alloc _).alloc _
  obtain ⟨r0,r1,r2⟩:=cells3 hR
  exact bodyPost_ret (v := .tuple #[.agg #[.int .u64 0,.int .u64 0,.int .u64 0],.bool false]) (by simp [results,Tryz.results58,go_sem,r0,r1,r2]) rfl
   ⟨rfl,D1.out.chg hC (fun b h1 h2=>by omega),((Chg.of_below (show Below w.heap.size w _ by go_grown)).trans (C1.out.mono (fun b _ e=>by subst e;exact hiD))).trans' hC (fun b hb e=>by omega)⟩
 | true =>
  obtain ⟨k,hz,hk,hg,hfl,-⟩:=hd.good.at' hhas
  have e1:T.atG key h=((T.lastG key h:Nat):Int):=by unfold TabS.atG;rw [if_pos hhas]
  have e2:T.atK key h=(k:Int):=by unfold TabS.atK;rw [if_pos hhas,hz]
  have e3:T.ent key h=T.S (T.lastG key h) k:=by unfold TabS.ent;rw [hz,if_pos (by omega),Int.toNat_natCast]
  have e4:T.delT key h=T.era (T.lastG key h) k:=by unfold TabS.delT;rw [if_pos hhas,hz,Int.toNat_natCast]
  rw [e1,e2] at WH
  rw [e3,e4]
  have ER:=hiq (fun (w':World) (h':DW w' (GB (T.lastG key h)) (T.M (T.lastG key h)) (T.S (T.lastG key h)))=>derase_ok (GB (T.lastG key h)) (T.M (T.lastG key h)) k (T.S (T.lastG key h)) hk hfl w' h')
  generalize T.lastG key h=x at *
  generalize T.frG h (T.freeJ key h)=fg at *
  generalize T.frK h (T.freeJ key h)=fk at *
  have HFL:=hiq hfl
  have zD:=hd.head.lt
  have hkI:(k:Int)<8:=by omega
  have hxI:(x:Int)<(T.n:Int):=by omega
  clear hd hhas e1 e2 e3 e4 hz hfl
  go_enter Tryz.func58,Tryz.ntmps58
  go_upto_region 4 with (go_at_call 89;(with_reducible refine (WH.out _ (HD.out.alloc _)).mono ?_);rintro e w1 ⟨rfl,hd1,hc1⟩;have D1:=hiq hd1;have C1:=hiq hc1;have E1:=hiq ((Blk.new w 41 #[.int .u64 0,.int .u64 0,.int .u64 0]).chg hc1 (by omega));clear hd1 hc1)
  refine wp_at (fun w2 hw2=>?_)
  have hB2:Below w1.heap.size w1 w2:=by rw [hw2];go_grown
  have D2:=hiq (D1.out.later hB2)
  have E2:=hiq (E1.out.below hB2 E1.out.lt)
  have C2:=hiq (show Chg (fun b=>lo≤b∧b<hi) w w2 from (((Chg.of_below (show Below w.heap.size w _ by go_grown)).trans (C1.out.mono (fun b _ e=>by subst e;exact hiD)))).thenBelow hB2)
  have A2:=hiq (show Blk w2 w1.heap.size 153 #[.int .i64 (x:Int),.int .i64 (k:Int)] by rw [hw2];exact (Blk.new _ _ _).alloc _)
  obtain ⟨a0,a1⟩:=cells2 A2.out
  have zA:=A2.out.lt
  obtain ⟨d0,-,zD2,-⟩:=dcells D2.out
  have p0:=D2.out.ptr x hg
  have zP:=D2.out.pz
  obtain ⟨-,g1,g2,g3⟩:=(D2.out.g x hg).cells k hk
  have zG:=(D2.out.g x hg).lt
  have hzw:w.heap.size<w1.heap.size:=E1.out.lt
  have hCA:Chg (fun b=>b=w2.heap.size) w2.drew (w2.alloc (.cells #[.int .u64 0,.int .u64 0,.int .u64 0] 41)).drew:=(Chg.refl _ w2.drew).alloc _
  have hGE:GB x≠w2.heap.size:=by omega
  have hPE:P≠w2.heap.size:=by omega
  have hAE:w1.heap.size≠w2.heap.size:=by omega
  have hDE:D≠w2.heap.size:=by omega
  replace hw2:=hiq hw2
  clear hB2 E1 C1 D1
  refine wp_region_seq (fun b=>b=w2.heap.size) #[⟨0,0,4194304,1,0⟩,⟨1,1,8388608,4194304,0⟩,⟨2,3,16777216,8388608,0⟩,⟨4,7,33554432,16777216,1⟩,⟨0,0,67108864,256,0⟩,⟨16,16,134217728,67108864,1⟩,⟨40,63,268435456,167772160,0⟩,⟨64,127,536870912,268435456,1⟩,⟨0,0,1073741824,256,0⟩,⟨256,256,2147483648,1073741824,1⟩,⟨128,255,4294967296,536870912,0⟩,⟨1024,1279,8589934592,4294967296,0⟩,⟨2560,4095,17179869184,10737418240,0⟩,⟨4096,8191,34359738368,17179869184,0⟩,⟨8192,16383,68719476736,34359738368,1⟩,⟨0,0,1024,0,2⟩,⟨65535,65535,0,68719477760,3⟩] 17064 [(0,0),(1,0),(2,0),(3,1),(4,0),(5,1),(6,0),(7,1),(8,0),(9,1),(10,0),(11,0),(12,0),(13,0),(14,1),(15,2),(16,3)] (by kernel_rfl) (by kernel_rfl) (by kernel_rfl) (by kernel_rfl) (by kernel_rfl) (by kernel_rfl) (fun c a d v w h=>by cases d <;> exact h) ?_
  refine zqC ?_;refine zqC ?_;refine zqC ?_
  refine zq1 Tryz.underlying96 ?_
  try refine zqP ?_;refine zqC ?_
  refine zq1 Tryz.underlying3 ?_
  try refine zqP ?_;refine zqC ?_
  refine zq1 Tryz.underlying137 ?_
  try refine zqP ?_;refine zqC ?_
  refine zq1 Tryz.underlying3 ?_
  try refine zqP ?_;refine zqC ?_;refine zqC ?_;refine zqC ?_;refine zqC ?_
  refine zqL [_,_,_] Tryz.underlying41 ?_
  try refine zqP ?_
  refine zqD fun K hK=>?_;go_wp2_with (fail);refine hkA hK (h:=?_);clear hK K
  try refine zqP ?_
  refine zqE fun K hK=>?_;go_wp2_with (fail);refine hK.out _ _ ?_;clear hK K
  try refine zqP ?_
  refine seq_nil ?_
  go_upto_region 5 with (fail)
  refine wp_at (fun w3 hw3=>?_)
  have hB3:Below w2.heap.size w2 w3:=by rw [hw3];go_grown
  have D3:=hiq (D2.out.later hB3)
  have E3:=hiq (E2.out.below hB3 E2.out.lt)
  have C3:=hiq (C2.out.thenBelow hB3)
  have A3:=hiq (A2.out.below hB3 A2.out.lt)
  have N3:=hiq (show Blk w3 w2.heap.size 41 #[.int .u64 (T.S x k).key,.int .u64 (T.S x k).val,.int .u64 (T.S x k).hash] by rw [hw3];first|exact Blk.new _ _ _|exact Blk.drew (Blk.new _ _ _))
  have hzw2:=E2.out.lt
  have hzA2:=A2.out.lt
  replace hw3:=hiq hw3
  clear hB3 E2 C2 D2 A2 a0 a1 d0 p0 g1 g2 g3 zD2 zP zG zA
  obtain ⟨a0,a1⟩:=cells2 A3.out
  have zA:=A3.out.lt
  obtain ⟨d0,-,zD2,-⟩:=dcells D3.out
  have p0:=D3.out.ptr x hg
  have zP:=D3.out.pz
  have hGx:=D3.out.ig x hg
  have hGw:=(D3.out.g x hg).lt
  have hhi1:hi≤w.heap.size:=hhi
  refine wp_region_seq (fun _=>False) #[⟨0,0,137438953472,1,0⟩,⟨1,1,274877906944,137438953472,0⟩,⟨2,3,549755813888,274877906944,0⟩,⟨4,7,1099511627776,549755813888,1⟩,⟨0,0,2199023255552,256,0⟩,⟨16,16,4398046511104,2199023255552,1⟩,⟨40,63,8796093022208,5497558138880,0⟩,⟨64,127,17592186044416,8796093022208,1⟩,⟨0,0,35184372088832,256,0⟩,⟨256,256,70368744177664,35184372088832,1⟩,⟨640,1023,140737488355328,87960930222080,3⟩] 680 [(0,0),(1,0),(2,0),(3,1),(4,0),(5,1),(6,0),(7,1),(8,0),(9,1),(10,3)] (by kernel_rfl) (by kernel_rfl) (by kernel_rfl) (by kernel_rfl) (by kernel_rfl) (by kernel_rfl) (fun c a d v w h=>by cases d <;> exact h) ?_
  refine zqC ?_;refine zqC ?_;refine zqC ?_
  refine zq1 Tryz.underlying96 ?_
  try refine zqP ?_;refine zqC ?_
  refine zq1 Tryz.underlying3 ?_
  try refine zqP ?_;refine zqC ?_
  refine zq1 Tryz.underlying137 ?_
  try refine zqP ?_;refine zqC ?_
  refine zq1 Tryz.underlying3 ?_
  try refine zqP ?_
  refine zqE fun K hK=>?_;go_wp2_with (go_at_call 101;((with_reducible refine (ER.out _ (D3.out.drew.g x hg)).mono ?_);rintro e w4 ⟨rfl,hg4,hc4⟩;have D4:=hiq (D3.out.drew.era hg hk HFL.out hg4 hc4);have C4:=hiq (show Chg (fun b=>lo≤b∧b<hi) w w4 from C3.out.drew.trans (hc4.mono (fun b _ e=>by subst e;exact hGx)));have E4:=hiq (E3.out.drew.chg hc4 (by omega));have N4:=hiq (N3.out.drew.chg hc4 (by omega));clear hg4));refine hK.out _ _ ?_;clear hK K
  try refine zqP ?_
  refine seq_nil ?_
  obtain ⟨e0,e1,e2⟩:=cells3 E4.out
  obtain ⟨n0,n1,n2⟩:=cells3 N4.out
  have zE:=E4.out.lt
  have zN:=N4.out.lt
  have fE:=fun j=>E4.out.frozen j
  have hne:w2.heap.size≠w.heap.size:=by omega
  go_wp2
  refine wp_end_at (fun Wf hWf=>?_)
  have hC:Chg (fun b=>b=w.heap.size) w4 Wf:=by rw [hWf];exact (((Chg.refl _ _).set1 _ _).set1 _ _).set1 _ _
  have hR:Blk Wf w.heap.size 41 #[.int .u64 (T.S x k).key,.int .u64 (T.S x k).val,.int .u64 (T.S x k).hash]:=by rw [hWf];exact ((E4.out.set 0 _).set 1 _).set 2 _
  obtain ⟨r0,r1,r2⟩:=cells3 hR
  exact bodyPost_ret (v := .tuple #[.agg #[.int .u64 (T.S x k).key,.int .u64 (T.S x k).val,.int .u64 (T.S x k).hash],.bool true]) (by simp [results,Tryz.results58,go_sem,r0,r1,r2]) rfl
   ⟨rfl,D4.out.chg hC (fun b h1 h2=>by omega),C4.out.trans' hC (fun b hb e=>by omega)⟩
end
section
variable {w:World} {lo hi D P cap:Nat} {GB:Nat→Nat} {T:TabS} {L:Int}
theorem dttake_any (hd:DT w lo hi D P cap GB T L) (hL:0≤L∧L≤1000000000) (i:Nat) (hi':i<T.n) :
 Calls Tryz.prog 118 #[.pointer (some ⟨D,0,none⟩),.int .i64 (i:Int)] w fun e w' =>
  ∃v,e = .returned (.tuple #[v,.int .i64 0])∧w'.ownsRow w.heap.size 41 3 v (entsL (T.M i) (T.S i)).length (entV (entsL (T.M i) (T.S i)))∧DT w' lo hi D P cap GB (T.takeT i) (L+1)∧Chg (fun b=>lo≤b∧b<hi) w w':=by
 have HD:=hiq hd
 have HGD:=hiq hd.good
 have hhi:=hd.hz
 have hiD:=hd.id
 obtain ⟨d0,d1,zD,fD⟩:=dcells hd
 have hn:=hd.good.bounds
 have e1:IntKind.i64.wrap (L+1)=L+1:=by rw [IntKind.wrap_i64];omega
 have hiI:(i:Int)<(T.n:Int):=by omega
 have EN:=hiq (fun (w':World) (h':DW w' (GB i) (T.M i) (T.S i))=>dentries_any (GB i) (T.M i) (T.S i) w' h')
 obtain ⟨l,hl⟩:=exq (entsL (T.M i) (T.S i))
 rw [←hl] at EN ⊢
 clear hd hl
 go_enter Tryz.func118,Tryz.ntmps118
 go_upto_region 4 with (fail)
 refine wp_at (fun w1 hw1=>?_)
 have D1:=hiq (show DT w1 lo hi D P cap GB T (L+1) by rw [hw1];exact HD.out.looks (L+1))
 have C1:=hiq (show Chg (fun b=>lo≤b∧b<hi) w w1 by rw [hw1];exact ((Chg.refl (fun b=>b=D) w).set1 _ _).mono (fun b _ e=>by subst e;exact hiD))
 have hz1:w1.heap.size=w.heap.size:=by rw [hw1];simp
 replace hw1:=hiq hw1
 clear d0 d1 zD fD
 obtain ⟨d0,-,zD,-⟩:=dcells D1.out
 have p0:=D1.out.ptr i hi'
 have zP:=D1.out.pz
 go_wp2_with (go_at_call 105;(with_reducible refine (EN.out _ (D1.out.g i hi')).mono ?_);rintro e w2 ⟨v,rfl,hr2,hb2⟩;have D2:=hiq (D1.out.later hb2);have R2:=hiq (ownsRow_base hr2 (show w.heap.size≤w1.heap.size by omega));have C2:=hiq (C1.out.thenBelow hb2);clear hr2)
 clear d0 zD p0 zP D1 C1
 go_loopw [7] (fun v7 wr => ∃k:Nat,k≤8∧v7 = .int .i64 (k:Int)∧DT wr lo hi D P cap GB (T.eraN i k) (L+1)∧wr.ownsRow w.heap.size 41 3 v l.length (entV l)∧Chg (fun b=>lo≤b∧b<hi) w wr) (fun v7 _=>8-(intOf v7).toNat)
 case atStart=>exact ⟨0,Nat.zero_le _,rfl,D2.out,R2.out,C2.out⟩
 case round =>
  clear D2 R2 C2
  obtain ⟨k,hk,rfl,hs,hr,hc⟩:=hrel
  have KS:=hiq hs
  have KR:=hiq hr
  have KC:=hiq hc
  have hnn:(T.eraN i k).n=T.n:=eraN_n T i k
  have hin:i<(T.eraN i k).n:=by omega
  obtain ⟨d0,-,zD,-⟩:=dcells hs
  have p0:=hs.ptr i hin
  have zP:=hs.pz
  have hGx:=hs.ig i hin
  rw [hnn] at d0
  clear hs hr hc
  by_cases hlt:k<8
  · have hkI:(k:Int)<8:=by omega
    have ER:=hiq (fun (w':World) (h':DW w' (GB i) ((T.eraN i k).M i) ((T.eraN i k).S i))=>derase_any (GB i) ((T.eraN i k).M i) (k:Int) ((T.eraN i k).S i) w' h')
    obtain ⟨x1,x2⟩:=eraN_era T i k hlt
    rw [←x1,←x2] at ER
    have HO:=hiq (show ∀j,j≠i→(T.eraN i (k+1)).M j=(T.eraN i k).M j∧(T.eraN i (k+1)).S j=(T.eraN i k).S j from fun j hj=>⟨((eraN_other T hj (k+1)).1).trans (eraN_other T hj k).1.symm,((eraN_other T hj (k+1)).2).trans (eraN_other T hj k).2.symm⟩)
    generalize eraB ((T.eraN i k).M i) (k:Int)=eb at *
    generalize fullE ((T.eraN i k).M i) (k:Int) true=fe at *
    clear x1 x2
    go_wp2_with (go_at_call 101;(with_reducible refine (ER.out _ (KS.out.g i hin)).mono ?_);rintro e w3 ⟨rfl,hg3,hc3⟩;have D3:=hiq (KS.out.group hin (T':=T.eraN i (k+1)) (by rw [eraN_n,eraN_n]) hg3 hc3 HO.out (HGD.out.eraN hi' (k+1) (by omega)));have C3:=hiq (KC.out.trans (hc3.mono (fun b _ e=>by subst e;exact hGx)));have R3:=hiq (ownsRow_chg KR.out hc3 (fun b hb e=>by omega));clear hg3)
    go_roundw
    case rel=>exact ⟨k+1,by omega,by go_num,D3.out,R3.out,C3.out⟩
    case measure=>simp [intOf];omega
  · obtain rfl:k=8:=by omega
    go_wp2
    go_ret2
    exact ⟨v,rfl,KR.out,KS.out,KC.out⟩
theorem infoTD:(Tryz.prog.info? 9).map (fun i=>(i.zero,i.size,i.bytes))=some (some (.string ⟨#[]⟩),1,16):=by kernel_rfl
theorem dttext_any (hd:DT w lo hi D P cap GB T L) :
 Calls Tryz.prog 27 #[.pointer (some ⟨D,0,none⟩)] w fun e w' => ∃v,e = .returned v∧ReadsTexts w' v T.texts∧Below w.heap.size w w':=by
 obtain ⟨i0,hi0,hz0,hz1,hz2⟩:=info_parts infoTD
 have hbd:=hd.good.bounds
 have HD:=hiq hd
 have hn:T.n≤64:=hbd.1
 unfold TabS.texts
 obtain ⟨d0,-,zD,-⟩:=dcells hd
 obtain ⟨n,hnn⟩:=exq T.n
 rw [←hnn] at d0 hn ⊢
 have HN:=hiq hnn
 clear hd hbd hnn
 go_enter Tryz.func27,Tryz.ntmps27
 go_wp2
 go_loopw [3,12] (fun v3 v12 wr => ∃k:Nat,k≤n∧v12 = .int .i64 (k:Int)∧wr.ownsRow w.heap.size 9 1 v3 k (((List.range k).map (fun i=>textW (T.M i))).map Value.string)∧Below w.heap.size w wr) (fun _ v12 _=>n-(intOf v12).toNat)
 case atStart=>exact ⟨0,by omega,rfl,⟨rfl,.inr ⟨w.heap.size,0,#[],rfl,Nat.le_refl _,Blk.new _ _ _,by simp,by decide,rfl,by simp⟩⟩,by go_grown⟩
 case round =>
  clear d0
  obtain ⟨k,hk,rfl,hrow,hB⟩:=hrel
  have hzB:=hB.size
  obtain ⟨a3,cap3,rfl⟩:=ownsRow_slice hrow
  have HR:=hiq hrow
  have KD:=hiq (HD.out.later hB)
  clear hrow
  by_cases hlt:k<n
  · have hltI:(k:Int)<(n:Int):=by omega
    have hkT:k<T.n:=by have:=HN.out;omega
    have p0:=KD.out.ptr k hkT
    have zP:=KD.out.pz
    have TX:=hiq (fun (w':World) (h':DW w' (GB k) (T.M k) (T.S k))=>dtext_any (GB k) (T.M k) (T.S k) w' h')
    generalize htx:textW (T.M k)=tx at TX
    have HE:Hid (((List.range (k+1)).map (fun i=>textW (T.M i))).map Value.string=((List.range k).map (fun i=>textW (T.M i))).map Value.string ++ [.string tx]):=hiq (by rw [List.range_succ,List.map_append,List.map_append,←htx];rfl)
    clear htx
    go_wp2_with (first
     | (go_at_call 68;(with_reducible refine (TX.out _ (KD.out.g k hkT)).mono ?_);rintro e w3 ⟨rfl,hb3⟩;have hz3:=hb3.size;have hB3:=hiq (hB.trans (hb3.mono hzB));have HR3:=hiq (ownsRow_own HR.out hb3))
     | (at_builtin;refine wpList_append_own _ rfl _ _ 76 rfl w.heap.size 9 i0 (.string ⟨#[]⟩) 1 16 Tryz.underlying76 hi0 hz0 hz1 hz2 rfl (by decide) _ _ _ rfl (HR3.out.alloc _) ⟨w3.heap.size,0,none⟩ 1 1 [.string tx] rfl rfl (cell1_new w3 _ _) (by simp [Value.oneCell']) (by unfold maxLen;omega) (by omega) (by simp;omega) ?_;intro v' w4 hown4 hgrow4 _;have hb4:=hiq (hB3.out.trans (below_append HR3.out hB3.out.size hgrow4));clear hgrow4;replace hown4:=hiq hown4))
    go_roundw
    case rel=>exact ⟨k+1,by omega,by go_num,by rw [HE.out];exact hown4.out,hb4.out⟩
    case measure=>simp [intOf];omega
  · obtain rfl:k=n:=by omega
    go_wp2
    go_ret
    exact ⟨_,rfl,readsTexts_own HR.out,hB⟩
end
end Go.Proofs.YtcnkgiapidlbkaaGreatDoor
