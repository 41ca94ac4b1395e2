/- Texts joined: CtrlPlain LaidErrs Errs ErrNum ErrsLaid ErrCells Ctrl CtrlText Num Own LaidTail Card LaidInts SwarTab U64 Rows2 RowsK RowsZ. No condition but those that stand within. -/
import Derived.Test.YtcnkgiapidlbkaaGreatDoorProg
import Derived.LaidEql
import Derived.LaidLaws
import Derived.Below
import Derived.RowKitTokens
import Derived.Stop.Asserts
import Derived.Handy
import Derived.Lib.Hide
import Derived.WalkSmall
import Derived.Lib.SlBytesRow
import Derived.Laws.IdiomStrings
import Derived.OwnWalk
import Derived.LoopTactic
import Derived.IntWalk
import Derived.Maps.AppendAt
import Derived.Test.YtcnkgiapidlbkaaGreatDoorRows
import Derived.WalkKit
import Derived.ProofKit
import Derived.OpenShut
import Derived.Deep.DeepHandedRow
import Derived.Deep.DeepWitnessRowRef
import Derived.Lib.LaidTab
import Derived.Deep.Slices
import Derived.Deep.Fields
import Derived.ChangeSame
import Derived.ChangeSlices
import Derived.Test.YtcnkgiapidlbkaaGreatDoorPkSwar
import Derived.Test.YtcnkgiapidlbkaaGreatDoorPkMeter
set_option linter.unusedVariables false
set_option linter.unusedSimpArgs false
set_option maxRecDepth 100000
set_option maxHeartbeats 4000000
namespace Go.Proofs.YtcnkgiapidlbkaaGreatDoor
def ctrlB (b:Nat):Bool:=decide (b≤128∨b=254)
def fullB (m:Nat) (i:Nat):Bool := !highB m i
theorem fulls_eq (m:Nat) (hm:m<18446744073709551616):maskB (highB (18446744073709551615-m))=maskB (fullB m):=by
 refine maskB_congr fun i hi=>?_
 unfold fullB highB
 rw [ln_not m i hm hi]
 have:=ln_lt m i
 rw [Bool.eq_iff_iff];simp;omega
theorem maskB_inj {f g:Nat→Bool} (h:maskB f=maskB g):∀i,i<8→f i=g i:=by
 intro i hi
 have h1:=ln_maskB f i hi
 rw [h,ln_maskB g i hi] at h1
 cases hf:f i <;> cases hg:g i <;> simp_all
def kindN (b:Nat):Nat:=if b=128 then 1 else if b=254 then 2 else if b<128 then 3 else 0
theorem kindN_le (b:Nat):kindN b≤3:=by
 unfold kindN;repeat' split
 all_goals omega
theorem kindN_ctrl (b:Nat):kindN b=0↔ctrlB b=false:=by
 unfold kindN ctrlB
 repeat' split
 all_goals simp
 all_goals omega
def signK (k:Nat):UInt8:=if k=1 then 46 else if k=2 then 120 else if k=3 then 35 else 63
def textTo (k:Nat→Nat) (n:Nat):ByteArray:=⟨((List.range n).map fun i=>signK (k i)).toArray⟩
theorem textTo_succ (k:Nat→Nat) (n:Nat):textTo k (n+1)=textTo k n ++ ⟨#[signK (k n)]⟩:=by
 apply ByteArray.ext
 simp [textTo,List.range_succ,ByteArray.data_append]
theorem textTo_size (k:Nat→Nat) (n:Nat):(textTo k n).size=n:=by simp [textTo,ByteArray.size]
def textW (m:Nat):ByteArray:=textTo (fun i=>kindN (ln m i)) 8
theorem kind_empty (m i:Nat):decide (kindN (ln m i)=1)=equalB m 128 i:=by
 unfold kindN equalB
 repeat' split
 all_goals simp_all
theorem kind_deleted (m i:Nat):decide (kindN (ln m i)=2)=equalB m 254 i:=by
 unfold kindN equalB
 repeat' split
 all_goals simp_all
theorem kind_full (m i:Nat):decide (kindN (ln m i)=3)=fullB m i:=by
 unfold kindN fullB highB
 repeat' split
 all_goals simp
 all_goals omega
open Go.RowKit Go.Proofs Go.ChangeShapes Go.WideShapes
theorem cell_spot {W:World} {a:Addr} {v:Value} (h:W.cell? a=some v):a.spot=none:=by
 unfold World.cell? at h
 split at h
 · cases hs:a.spot with
   | none=>rfl
   | some x=>simp [hs] at h
 · cases h
inductive Pair2 {α β:Type} (R:α→β→Prop):List α→List β→Prop
 | nil:Pair2 R [] []
 | cons {a:α} {b:β} {l:List α} {m:List β} (h:R a b) (r:Pair2 R l m):Pair2 R (a :: l) (b :: m)
def IsErrRow (P:Program) (tErr:TypeId) (x:String×DataW Unit) (g:Nat):Prop :=
 P.globalNamed x.1=some g∧(P.globals[g]?).map (·.type)=some tErr∧∃text,x.2 = .iface "*errors.errorString" (.ptr (.agg [.lit (.string text)]))
theorem laid_errs {P:Program} {w:World} {tErr tPtr tRec tStr:TypeId} {ms:Array (String×TypeId)} {f:Field}
 (hi:P.underlying tErr=some (.interface ms)) (hrow:∀u,P.typeName? 3 u=some "*errors.errorString"→u=tPtr)
 (hp:P.underlying tPtr=some (.pointer tRec)) (he:P.underlying tRec=some (.struct #[f])) (hft:f.type=tStr) (hfo:f.offset=0) (hs:P.underlying tStr=some .string)
 (hc:P.cellsOf tRec=1) (hcs:P.cellsOf tStr=1) :
 ∀ (l:List (String×DataW Unit)) (gs:List Nat) (ps:List MemPlace),DataW.LaidVars P w l ps→Pair2 (IsErrRow P tErr) l gs→
  (∀b off,MemPlace.cell b off∈ps→(∃c t,w.heap[b]?=some (.cells c t (0,0)))∧∀u v,w.cell? ⟨b,off,none⟩=some (.iface u v)→Value.okWide P w .any 0 u v)→
  ∃E:List Addr,Pair2 (fun g a=>w.cell? ⟨g,0,none⟩=some (.iface tPtr (.pointer (some a)))∧a.spot=none∧∃c t,w.heap[a.block]?=some (.cells c t (0,0))) gs E∧
   (E.map fun a=>MemPlace.cell a.block a.off).Sublist ps:=by
 intro l
 induction l with
 | nil =>
  intro gs ps hl hf _
  cases hf
  exact ⟨[],.nil,by simp⟩
 | cons x l ih =>
  intro gs ps hl hf hr
  cases hf with
  | cons hx hf =>
   rename_i g gs
   obtain ⟨n,d⟩:=x
   obtain ⟨g',t,cs,fuel,p,q,hg,ht,hv,hd,hq,rfl⟩:=hl
   obtain ⟨hxg,hxt,text,hxd⟩:=hx
   simp only at hxg hxt hxd
   subst hxd
   obtain rfl:=Option.some.inj (hg.symm.trans hxg)
   obtain rfl:=Option.some.inj (ht.symm.trans hxt)
   obtain ⟨E,hE,hsub⟩:=ih gs q hq hf (fun b off hm=>hr b off (by simp [hm]))
   obtain ⟨lc⟩:=cs
   have hvc:=World.var?_cell hg hv 0
   have ok:∀u v,lc = [.iface u v]→Value.okWide P w .any 0 u v:=fun u v e=>by
    subst e
    exact (hr g' 0 (by simp [MemPlace.row])).2 u v (by simpa using hvc)
   obtain ⟨a,s,rfl,hca,hsa,hza,rfl⟩:=errorString_of_trod hi hrow hp he hft hfo hs hc hcs hd ok
   refine ⟨a :: E,.cons ⟨by simpa using hvc,cell_spot hca,?_⟩ hE,?_⟩
   · exact (hr a.block a.off (by simp [MemPlace.row])).1
   · have e1:MemPlace.row a 1 = [MemPlace.cell a.block a.off]:=by simp [MemPlace.row]
     rw [e1]
     simp only [List.map_cons,List.append_assoc,List.singleton_append]
     exact (hsub.cons_cons _).trans (List.sublist_append_right _ _)
theorem laid_take {P:Program} {w:World}:∀ {l:List (String×DataW Unit)} {ps:List MemPlace},DataW.LaidVars P w l ps→∀n:Nat,∃ps',DataW.LaidVars P w (l.take n) ps'∧ps'.Sublist ps:=by
 intro l
 induction l with
 | nil=>intro ps h n;exact ⟨[],by simp [DataW.LaidVars],by simp⟩
 | cons x l ih =>
  intro ps h n
  obtain ⟨m,d⟩:=x
  obtain ⟨g,t,cs,fuel,p,q,hg,ht,hv,hd,hq,rfl⟩:=h
  cases n with
  | zero=>exact ⟨[],by simp [DataW.LaidVars],by simp⟩
  | succ n =>
   obtain ⟨q',hq',hs⟩:=ih hq n
   exact ⟨MemPlace.row ⟨g,0,none⟩ cs.size ++ p ++ q',⟨g,t,cs,fuel,p,q',hg,ht,hv,hd,hq',rfl⟩,hs.append_left _⟩
theorem starErr : "*" ++ "errors.errorString" = "*errors.errorString" := by decide
theorem ptrRow (u:TypeId) (h:Tryz.prog.typeName? 3 u=some "*errors.errorString"):u=251 :=
 typeName_ptr_named (nm := "errors.errorString") (by rw [starErr];kernel_rfl) (by kernel_rfl) (by decide) u (by rw [starErr];exact h)
theorem errs_of {w:World} {l:List (String×DataW Unit)} {gs:List Nat} (n:Nat) (h:laidMet Tryz.prog l w) (hf:Pair2 (IsErrRow Tryz.prog 48) (l.take n) gs) :
 ∃E:List Addr,Pair2 (fun g a=>w.cell? ⟨g,0,none⟩=some (.iface 251 (.pointer (some a)))∧a.spot=none∧∃c t,w.heap[a.block]?=some (.cells c t (0,0))) gs E∧E.Nodup:=by
 obtain ⟨ps,hl,hnd,hr⟩:=h
 obtain ⟨ps',hl',hs⟩:=laid_take hl n
 obtain ⟨E,hE,hsub⟩:=laid_errs Tryz.underlying48 ptrRow Tryz.underlying251 Tryz.underlying274 rfl rfl Tryz.underlying9 (by kernel_rfl) (by kernel_rfl) _ _ _ hl' hf (fun b off hm=>hr b off (hs.subset hm))
 refine ⟨E,hE,?_⟩
 exact List.Pairwise.of_map (fun a:Addr=>MemPlace.cell a.block a.off) (fun a b hab h=>hab (by rw [h])) ((hsub.trans hs).nodup hnd)
theorem err_row (P:Program) (tErr:TypeId) (n:String) (text:List UInt8) (g:Nat) (h1:P.globalNamed n=some g) (h2:(P.globals[g]?).map (·.type)=some tErr) :
 IsErrRow P tErr (n,.iface "*errors.errorString" (.ptr (.agg [.lit (.string text)]))) g:=⟨h1,h2,text,rfl⟩
open Go.RowKit Go.Proofs Go.ChangeShapes Go.WideShapes Go.Stop Go.Extern
theorem isTypeOf (v:Value) (w:World):(Extern.ReflectliteType.typeOf #[.iface 251 v]).run Tryz.prog w = .ok (.iface 211 (.agg #[.pointer (some ⟨18,251,none⟩)])) w:=by kernel_rfl
def cmpM:Array Value→Sem Value:=Extern.ReflectliteType.method fun t=>do Extern.Rtype.noPackHeld "Comparable" t;pure (.bool (←typeInfo t).comparable)
theorem isComparable (w:World):(cmpM #[.agg #[.pointer (some ⟨18,251,none⟩)]]).run Tryz.prog w = .ok (.bool true) w:=by kernel_rfl
theorem isMethodComparable (v:Value) (w:World):(Go.method 386 211 v "Comparable").run Tryz.prog w = .ok (202,v) w:=by kernel_rfl
theorem isComp:(Tryz.prog.info? 251).map (·.comparable)=some true:=by kernel_rfl
theorem isSize:(Tryz.prog.info? 274).map (·.size)=some 1:=by kernel_rfl
theorem noIsE (v:Value) (xT:TypeId) (w:World):(Instr.typeAssert (.iface 251 v) xT 213 true).run Tryz.prog w = .ok (.tuple #[.nilIface,.bool false]) w:=run_typeAssert_lacksB Tryz.underlying213 (by kernel_rfl) (by kernel_rfl) v xT w
theorem noUnwrapE (v:Value) (xT:TypeId) (w:World):(Instr.typeAssert (.iface 251 v) xT 216 true).run Tryz.prog w = .ok (.tuple #[.nilIface,.bool false]) w:=run_typeAssert_lacksB Tryz.underlying216 (by kernel_rfl) (by kernel_rfl) v xT w
theorem noUnwrapsE (v:Value) (xT:TypeId) (w:World):(Instr.typeAssert (.iface 251 v) xT 217 true).run Tryz.prog w = .ok (.tuple #[.nilIface,.bool false]) w:=run_typeAssert_lacksB Tryz.underlying217 (by kernel_rfl) (by kernel_rfl) v xT w
theorem is_same (a:Addr) (w:World) :
 Calls Tryz.prog 55 #[.iface 251 (.pointer (some a)),.iface 251 (.pointer (some a))] w fun e w'=>e = .returned (.bool true)∧w=w':=by
 obtain ⟨i,hi,hcmp⟩:=Option.map_eq_some_iff.1 isComp
 obtain ⟨j,hj,hjs⟩:=Option.map_eq_some_iff.1 isSize
 have h8 := @run_callFunc_extern Tryz.prog 97 _ Extern.ReflectliteType.typeOf Tryz.func97 (by kernel_rfl) (by kernel_rfl) (by kernel_rfl) (by kernel_rfl)
 have h32 := @run_callFunc_extern Tryz.prog 202 _ cmpM Tryz.func202 (by kernel_rfl) (by kernel_rfl) (by kernel_rfl) (by kernel_rfl)
 have tT:=isTypeOf
 have cT:=isComparable
 have mR:=isMethodComparable
 have heq:=run_eql_iface_ptr_same (P:=Tryz.prog) w a Tryz.underlying48 Tryz.underlying251 hi hcmp hj
 go_enter Tryz.func55,Tryz.ntmps55
 go_wp2
 refine wp_loop_rounds 1 ?_
 rw [rounds_succ]
 go_wp2
 go_ret
 exact ⟨rfl,rfl⟩
theorem is_other (a b:Addr) (w:World) (hne:a≠b) (ha:∃c t,w.heap[a.block]?=some (.cells c t (0,0))) (hb:∃c t,w.heap[b.block]?=some (.cells c t (0,0))) :
 Calls Tryz.prog 55 #[.iface 251 (.pointer (some a)),.iface 251 (.pointer (some b))] w fun e w'=>e = .returned (.bool false)∧w=w':=by
 obtain ⟨i,hi,hcmp⟩:=Option.map_eq_some_iff.1 isComp
 obtain ⟨j,hj,hjs⟩:=Option.map_eq_some_iff.1 isSize
 obtain ⟨ca,ta,ha⟩:=ha
 obtain ⟨cb,tb,hb⟩:=hb
 have h8 := @run_callFunc_extern Tryz.prog 97 _ Extern.ReflectliteType.typeOf Tryz.func97 (by kernel_rfl) (by kernel_rfl) (by kernel_rfl) (by kernel_rfl)
 have h32 := @run_callFunc_extern Tryz.prog 202 _ cmpM Tryz.func202 (by kernel_rfl) (by kernel_rfl) (by kernel_rfl) (by kernel_rfl)
 have tT:=isTypeOf
 have cT:=isComparable
 have mR:=isMethodComparable
 have nE:=noIsE
 have uE:=noUnwrapE
 have vE:=noUnwrapsE
 have heq:=run_eql_iface_ptr_other (P:=Tryz.prog) w Tryz.underlying48 Tryz.underlying251 hi hcmp hj (by rw [hjs];decide) hne ha hb
 go_enter Tryz.func55,Tryz.ntmps55
 go_wp2
 refine wp_loop_rounds 1 ?_
 rw [rounds_succ]
 go_wp2
 go_ret
 exact ⟨rfl,rfl⟩
def errAt (E:Nat→Addr) (n:Nat):Value := .iface 251 (.pointer (some (E n)))
structure ErrsAre (w:World) (E:Nat→Addr):Prop where
 c1:w.cell? ⟨5,0,none⟩=some (errAt E 1)
 c2:w.cell? ⟨0,0,none⟩=some (errAt E 2)
 c3:w.cell? ⟨8,0,none⟩=some (errAt E 3)
 c4:w.cell? ⟨4,0,none⟩=some (errAt E 4)
 c5:w.cell? ⟨1,0,none⟩=some (errAt E 5)
 c6:w.cell? ⟨9,0,none⟩=some (errAt E 6)
 c7:w.cell? ⟨10,0,none⟩=some (errAt E 7)
 c8:w.cell? ⟨11,0,none⟩=some (errAt E 8)
 c9:w.cell? ⟨12,0,none⟩=some (errAt E 9)
 c10:w.cell? ⟨3,0,none⟩=some (errAt E 10)
 c11:w.cell? ⟨13,0,none⟩=some (errAt E 11)
 c12:w.cell? ⟨2,0,none⟩=some (errAt E 12)
 c13:w.cell? ⟨14,0,none⟩=some (errAt E 13)
 c14:w.cell? ⟨7,0,none⟩=some (errAt E 14)
 c15:w.cell? ⟨15,0,none⟩=some (errAt E 15)
 c16:w.cell? ⟨6,0,none⟩=some (errAt E 16)
 blk:∀n,1≤n→n≤16→∃c t,w.heap[(E n).block]?=some (.cells c t (0,0))
 apart:∀m n,1≤m→m≤16→1≤n→n≤16→E m=E n→m=n
theorem ErrsAre.below {w w':World} {E:Nat→Addr} (h:ErrsAre w E) (hb:Below w.heap.size w w'):ErrsAre w' E:=by
 have k:∀ {a:Addr} {v:Value},w.cell? a=some v→w'.cell? a=some v:=fun c=>(hb.cell (World.block_lt_of_cell? _ _ c)).trans c
 refine ⟨k h.c1,k h.c2,k h.c3,k h.c4,k h.c5,k h.c6,k h.c7,k h.c8,k h.c9,k h.c10,k h.c11,k h.c12,k h.c13,k h.c14,k h.c15,k h.c16,?_,h.apart⟩
 intro n h1 h2
 obtain ⟨c,t,hc⟩:=h.blk n h1 h2
 exact ⟨c,t,(hb.block _ (Array.getElem?_eq_some_iff.1 hc).1).trans hc⟩
def errRow (E:Nat→Addr):Array Value := #[errAt E 1,errAt E 2,errAt E 3,errAt E 4,errAt E 5,errAt E 6,errAt E 7,errAt E 8,errAt E 9,errAt E 10,errAt E 11,errAt E 12,errAt E 13,errAt E 14,errAt E 15,errAt E 16]
theorem errRow_get (E:Nat→Addr) (k:Nat) (hk:k<16):(errRow E)[k]?=some (errAt E (k+1)):=by
 match k,hk with
 | 0,_=>rfl
 | 1,_=>rfl
 | 2,_=>rfl
 | 3,_=>rfl
 | 4,_=>rfl
 | 5,_=>rfl
 | 6,_=>rfl
 | 7,_=>rfl
 | 8,_=>rfl
 | 9,_=>rfl
 | 10,_=>rfl
 | 11,_=>rfl
 | 12,_=>rfl
 | 13,_=>rfl
 | 14,_=>rfl
 | 15,_=>rfl
 | k+16,h=>exact absurd h (by omega)
section laws
variable {P:Program} {ops:Array Oper} {rest:List Oper} {o:Oper} {a:Act} {Q:Exit→Act→World→Prop} {w w':World} {v:Value}
theorem wpList_val (hgd:o.guard=none) (hrun:(execOp a.eval o).run P w = .ok (.value v) w')
 (h:wpList P ops Q rest (a.put o.dst v) w'):wpList P ops Q (o :: rest) a w:=by
 refine wpList_plain hgd fun K hK=>?_
 unfold Oper.wp
 rw [hrun]
 exact hK _ _ h
theorem exec_buildSlice {ρ:Operand→Value} {t e:TypeId} {len:Nat} {parts:Array (Nat×Operand)} {cs:Array Value} (hop:o.op = .buildSlice t len parts) (hu:P.underlying t=some (.slice e)) (hs:∀w,(sizeOf e).run P w = .ok 1 w)
 (hz:∀w,(zeroValue e).run P w = .ok .nilIface w) (h0:len≠0) (h1:len≤1000)
 (hf:Instr.fill (fun i=>some (i*1,1)) ((Array.range (len*1)).map (Value.nilIface.cells[· % Value.nilIface.cells.size]!)) (parts.map fun (i,x)=>(i,ρ x)).toList=some cs) :
 (execOp ρ o).run P w = .ok (.value (.slice (some ⟨w.heap.size,0,none⟩) len len)) (w.alloc (.cells cs e)):=by
 have h2:¬len*1 > 2 ^ 24:=by omega
 have h3:¬len*1=0:=by omega
 have hb:∀ps:Array (Nat×Value),Instr.fill (fun i=>some (i*1,1)) ((Array.range (len*1)).map (Value.nilIface.cells[· % Value.nilIface.cells.size]!)) ps.toList=some cs→(Instr.buildSlice t len ps).run P w = .ok (.slice (some ⟨w.heap.size,0,none⟩) len len) (w.alloc (.cells cs e)):=by
  intro ps hps
  unfold Instr.buildSlice
  rw [Sem.run_bind,run_underlying hu]
  simp only [Result.andThen]
  rw [Sem.run_bind,hs]
  simp only [Result.andThen,if_neg h2,if_neg h3]
  simp [-Nat.mul_one,-Array.size_range,Sem.run_bind,hz,Result.andThen,hps,newRow,run_newObj_alloc]
 simp [execOp,hop,Sem.run_bind,hb _ hf,Result.andThen]
end laws
theorem all_any (w:World) (E:Nat→Addr) (h:ErrsAre w E) :
 Calls Tryz.prog 54 #[] w fun e w'=>e = .returned (.slice (some ⟨w.heap.size,0,none⟩) 16 16)∧w.alloc (.cells (errRow E) 48)=w':=by
 have c1:=h.c1
 have c2:=h.c2
 have c3:=h.c3
 have c4:=h.c4
 have c5:=h.c5
 have c6:=h.c6
 have c7:=h.c7
 have c8:=h.c8
 have c9:=h.c9
 have c10:=h.c10
 have c11:=h.c11
 have c12:=h.c12
 have c13:=h.c13
 have c14:=h.c14
 have c15:=h.c15
 have c16:=h.c16
 clear h
 go_enter Tryz.func54,Tryz.ntmps54
 go_wp2_with (refine wpList_val rfl (exec_buildSlice (t:=116) (cs:=errRow E) rfl Tryz.underlying116 (fun w=>Tryz.sizeOf48 w) (fun w=>by kernel_rfl) (by decide) (by decide) (by kernel_rfl)) ?_)
 go_ret
 exact ⟨rfl,rfl⟩
theorem num_nil (w:World):Calls Tryz.prog 14 #[.nilIface] w fun e w'=>e = .returned (.int .i64 0)∧w=w':=by
 go_enter Tryz.func14,Tryz.ntmps14
 go_wp2
 go_ret
 exact ⟨rfl,rfl⟩
theorem num_err (w:World) (E:Nat→Addr) (h:ErrsAre w E) (n:Nat) (h1:1≤n) (h16:n≤16) :
 Calls Tryz.prog 14 #[errAt E n] w fun e w'=>e = .returned (.int .i64 (n:Int))∧w.alloc (.cells (errRow E) 48)=w':=by
 have hall:=all_any w E h
 have h':ErrsAre (w.alloc (.cells (errRow E) 48)) E:=h.below ((Below.refl _ w).alloc (Nat.le_refl _) _)
 have hcell:∀k:Nat,k<16→(w.alloc (.cells (errRow E) 48)).cell? ⟨w.heap.size,k,none⟩=some (errAt E (k+1)):=by
  intro k hk
  have:=errRow_get E k hk
  have hb:(w.alloc (.cells (errRow E) 48)).heap[w.heap.size]?=some (.cells (errRow E) 48 (0,0)):=by unfold World.alloc;simp
  unfold World.cell?
  rw [hb]
  simpa using this
 obtain ⟨W,hW⟩:=exq (w.alloc (.cells (errRow E) 48))
 rw [←hW] at hall h' hcell
 simp only [errAt] at hcell ⊢
 have HC:=hiq hcell
 have HE:=hiq h'
 have hW':=hiq hW
 clear hcell h' hW h
 go_enter Tryz.func14,Tryz.ntmps14
 go_wp2_with (go_at_call 54;refine hall.mono ?_;rintro e w' ⟨rfl,rfl⟩)
 go_loop [9] (fun v9 => ∃k:Nat,k<n∧v9 = .int .i64 (k:Int)) (fun v9=>n-(intOf v9).toNat)
 case atStart=>exact ⟨0,by omega,rfl⟩
 case round =>
  obtain ⟨k,hk,rfl⟩:=hrel
  have hc:=HC.out k (by omega)
  by_cases he:k+1=n
  · subst he
    have hs:=is_same (E (k+1)) W
    go_wp2_with (go_at_call 55;refine hs.mono ?_;rintro e w' ⟨rfl,rfl⟩)
    go_ret
    exact ⟨by simp,hW'.out.symm⟩
  · have ho:=is_other (E n) (E (k+1)) W (fun h=>he (HE.out.apart _ _ (by omega) (by omega) (by omega) (by omega) h).symm) (HE.out.blk _ (by omega) (by omega)) (HE.out.blk _ (by omega) (by omega))
    go_wp2_with (go_at_call 55;refine ho.mono ?_;rintro e w' ⟨rfl,rfl⟩)
    go_round
    case rel=>exact ⟨k+1,by omega,by go_num⟩
    case measure=>simp [intOf];omega
open Go.RowKit Go.Proofs Go.ChangeShapes Go.WideShapes
theorem Pair2.len {α β:Type} {R:α→β→Prop} {l:List α} {m:List β} (h:Pair2 R l m):l.length=m.length:=by
 induction h with
 | nil=>rfl
 | cons _ _ ih=>simp [ih]
theorem Pair2.get {α β:Type} {R:α→β→Prop} {l:List α} {m:List β} (h:Pair2 R l m):∀ (i:Nat) (a:α) (b:β),l[i]?=some a→m[i]?=some b→R a b:=by
 induction h with
 | nil=>intro i a b h;simp at h
 | cons hh _ ih =>
  intro i a b h1 h2
  cases i with
  | zero=>simp at h1 h2;subst h1 h2;exact hh
  | succ i=>exact ih i a b (by simpa using h1) (by simpa using h2)
theorem errsAre_of {w:World} {l:List (String×DataW Unit)} (h:laidMet Tryz.prog l w)
 (hf:Pair2 (IsErrRow Tryz.prog 48) (l.take 16) [5,0,8,4,1,9,10,11,12,3,13,2,14,7,15,6]) :
 ∃E,ErrsAre w E:=by
 obtain ⟨Es,hE,hnd⟩:=errs_of 16 h hf
 have hl:Es.length=16:=by have:=hE.len;simpa using this.symm
 have hget:∀i,i<16→Es[i]?=some (Es.getD i ⟨0,0,none⟩):=fun i hi=>by
  rw [List.getD_eq_getElem?_getD,List.getElem?_eq_getElem (by omega)];rfl
 have k:=fun (i:Nat) (hi:i<16) (g:Nat) (hg : [5,0,8,4,1,9,10,11,12,3,13,2,14,7,15,6][i]?=some g)=>hE.get i g _ hg (hget i hi)
 refine ⟨fun n=>Es.getD (n-1) ⟨0,0,none⟩,(k 0 (by decide) _ rfl).1,(k 1 (by decide) _ rfl).1,(k 2 (by decide) _ rfl).1,(k 3 (by decide) _ rfl).1,(k 4 (by decide) _ rfl).1,(k 5 (by decide) _ rfl).1,(k 6 (by decide) _ rfl).1,(k 7 (by decide) _ rfl).1,(k 8 (by decide) _ rfl).1,(k 9 (by decide) _ rfl).1,(k 10 (by decide) _ rfl).1,(k 11 (by decide) _ rfl).1,(k 12 (by decide) _ rfl).1,(k 13 (by decide) _ rfl).1,(k 14 (by decide) _ rfl).1,(k 15 (by decide) _ rfl).1,?_,?_⟩
 · intro n h1 h2
   match n,h1,h2 with
   | 1,_,_=>exact (k 0 (by decide) _ rfl).2.2
   | 2,_,_=>exact (k 1 (by decide) _ rfl).2.2
   | 3,_,_=>exact (k 2 (by decide) _ rfl).2.2
   | 4,_,_=>exact (k 3 (by decide) _ rfl).2.2
   | 5,_,_=>exact (k 4 (by decide) _ rfl).2.2
   | 6,_,_=>exact (k 5 (by decide) _ rfl).2.2
   | 7,_,_=>exact (k 6 (by decide) _ rfl).2.2
   | 8,_,_=>exact (k 7 (by decide) _ rfl).2.2
   | 9,_,_=>exact (k 8 (by decide) _ rfl).2.2
   | 10,_,_=>exact (k 9 (by decide) _ rfl).2.2
   | 11,_,_=>exact (k 10 (by decide) _ rfl).2.2
   | 12,_,_=>exact (k 11 (by decide) _ rfl).2.2
   | 13,_,_=>exact (k 12 (by decide) _ rfl).2.2
   | 14,_,_=>exact (k 13 (by decide) _ rfl).2.2
   | 15,_,_=>exact (k 14 (by decide) _ rfl).2.2
   | 16,_,_=>exact (k 15 (by decide) _ rfl).2.2
   | n+17,_,h=>exact absurd h (by omega)
   | 0,h,_=>exact absurd h (by omega)
 · intro m n hm1 hm2 hn1 hn2 he
   have h1:=hget (m-1) (by omega)
   have h2:=hget (n-1) (by omega)
   have he':Es.getD (m-1) ⟨0,0,none⟩=Es.getD (n-1) ⟨0,0,none⟩:=he
   rw [←he'] at h2
   have:=(List.getElem?_inj (by omega) hnd).1 (h1.trans h2.symm)
   omega
open Go.RowKit Go.Proofs Go.ChangeShapes Go.WideShapes
def errG (k:Nat):Nat:=match k with
 | 1=>5|2=>0|3=>8|4=>4|5=>1|6=>9|7=>10|8=>11|9=>12|10=>3|11=>13|12=>2|13=>14|14=>7|15=>15|_=>6
def EC (w:World) (E:Nat→Addr) (l:List Nat):Prop := ∀k∈l,w.cell? ⟨errG k,0,none⟩=some (errAt E k)
theorem EC.below {w w':World} {E:Nat→Addr} {l:List Nat} (h:EC w E l) (hb:Below w.heap.size w w'):EC w' E l:=fun k hk=>(hb.cell (World.block_lt_of_cell? _ _ (h k hk))).trans (h k hk)
theorem EC.sub {w:World} {E:Nat→Addr} {l l':List Nat} (h:EC w E l) (hs:∀k∈l',k∈l):EC w E l':=fun k hk=>h k (hs k hk)
theorem ErrsAre.ec {w:World} {E:Nat→Addr} (h:ErrsAre w E):EC w E [1,2,3,4,5,6,7,8,9,10,11,12,13,14,15,16]:=by
 intro k hk
 have hk':1≤k∧k≤16:=by simp at hk;omega
 obtain ⟨h1,h2⟩:=hk'
 match k,h1,h2 with
 | 1,_,_=>exact h.c1
 | 2,_,_=>exact h.c2
 | 3,_,_=>exact h.c3
 | 4,_,_=>exact h.c4
 | 5,_,_=>exact h.c5
 | 6,_,_=>exact h.c6
 | 7,_,_=>exact h.c7
 | 8,_,_=>exact h.c8
 | 9,_,_=>exact h.c9
 | 10,_,_=>exact h.c10
 | 11,_,_=>exact h.c11
 | 12,_,_=>exact h.c12
 | 13,_,_=>exact h.c13
 | 14,_,_=>exact h.c14
 | 15,_,_=>exact h.c15
 | 16,_,_=>exact h.c16
 | n+17,_,h=>exact absurd h (by omega)
 | 0,h,_=>exact absurd h (by omega)
def errN (E:Nat→Addr) (k:Nat):Value:=if k=0 then .nilIface else errAt E k
theorem num_any (E:Nat→Addr) (p:Nat) (hp:p≤16) (w:World) (h:ErrsAre w E) :
 Calls Tryz.prog 14 #[errN E p] w fun e w'=>e = .returned (.int .i64 (p:Int))∧Below w.heap.size w w':=by
 unfold errN
 by_cases h0:p=0
 · subst h0;exact (num_nil w).mono fun e w' ⟨a,b⟩=>⟨a,b▸Below.refl _ _⟩
 · rw [if_neg h0];exact (num_err w E h p (by omega) hp).mono fun e w' ⟨a,b⟩=>⟨a,b▸(Below.refl _ _).alloc (Nat.le_refl _) _⟩
theorem control_any (b:Nat) (hb:b<256) (w:World) :
 Calls Tryz.prog 175 #[.int .u8 (b:Int)] w fun e w'=>e = .returned (.bool (ctrlB b))∧w=w':=by
 by_cases h1:b≤128
 · have e1:decide ((b:Int)≤128)=true:=by simp;omega
   have:ctrlB b=true:=by unfold ctrlB;simp;omega
   rw [this]
   go_enter Tryz.func175,Tryz.ntmps175
   go_wp2
   go_ret
   exact ⟨rfl,rfl⟩
 · have e1:decide ((b:Int)≤128)=false:=by simp;omega
   have:ctrlB b=((b:Int) == 254):=by unfold ctrlB;rw [Bool.eq_iff_iff];simp;omega
   rw [this]
   go_enter Tryz.func175,Tryz.ntmps175
   go_wp2
   go_ret
   exact ⟨rfl,rfl⟩
theorem cnew_any (w:World):Calls Tryz.prog 153 #[] w fun e w'=>e = .returned (.int .u64 ((rep 128:Nat):Int))∧w=w':=by
 go_enter Tryz.func153,Tryz.ntmps153
 go_wp2_with (go_at_call 170;refine (repeat_any 128 (by decide) _).mono ?_;rintro e w' ⟨rfl,rfl⟩)
 go_ret
 exact ⟨rfl,rfl⟩
theorem cget_in (m i:Nat) (hm:m<18446744073709551616) (hi:i<8) (w:World) :
 Calls Tryz.prog 138 #[.int .u64 (m:Int),.int .i64 (i:Int)] w fun e w'=>e = .returned (.int .u8 ((ln m i:Nat):Int))∧w=w':=by
 go_enter Tryz.func138,Tryz.ntmps138
 go_wp2_with (go_at_call 165;refine (lane_in m i hm hi _).mono ?_;rintro e w' ⟨rfl,rfl⟩)
 go_ret
 exact ⟨rfl,rfl⟩
theorem cset_ok (m i b:Nat) (hm:m<18446744073709551616) (hi:i<8) (hb:b<256) (hc:ctrlB b=true) (w:World) :
 Calls Tryz.prog 166 #[.int .u64 (m:Int),.int .i64 (i:Int),.int .u8 (b:Int)] w fun e w'=>e = .returned (.tuple #[.int .u64 ((setL m i b:Nat):Int),.nilIface])∧Below w.heap.size w w':=by
 have HC:=control_any b hb
 rw [hc] at HC
 replace HC:=hiq HC
 have e1:decide ((i:Int)<0)=false:=by simp
 have e2:decide ((i:Int)≥8)=false:=by simp;omega
 clear hc
 go_enter Tryz.func166,Tryz.ntmps166
 go_wp2_with (first
  | (go_at_call 175;refine (HC.out _).mono ?_;rintro e w' ⟨rfl,rfl⟩)
  | (go_at_call 176;refine (with_in m i b hm hi hb _).mono ?_;rintro e w' ⟨rfl,rfl⟩))
 go_ret2
 exact ⟨rfl,below_drewN (Below.refl _ _) 1⟩
def matchN (m h:Nat):Nat:=if h<128 then maskB (equalB m h) else 0
theorem cmatch_any (m h:Nat) (hm:m<18446744073709551616) (hh:h<256) (w:World) :
 Calls Tryz.prog 158 #[.int .u64 (m:Int),.int .u8 (h:Int)] w fun e w'=>e = .returned (.int .u64 ((matchN m h:Nat):Int))∧w=w':=by
 unfold matchN
 by_cases h1:h<128
 · have e1:decide ((h:Int)≥128)=false:=by simp;omega
   rw [if_pos h1]
   go_enter Tryz.func158,Tryz.ntmps158
   go_wp2_with (go_at_call 172;refine (equal_any m h hm hh _).mono ?_;rintro e w' ⟨rfl,rfl⟩)
   go_ret
   exact ⟨rfl,rfl⟩
 · have e1:decide ((h:Int)≥128)=true:=by simp;omega
   rw [if_neg h1]
   go_enter Tryz.func158,Tryz.ntmps158
   go_wp2
   go_ret
   exact ⟨rfl,rfl⟩
theorem cempties_any (m:Nat) (hm:m<18446744073709551616) (w:World) :
 Calls Tryz.prog 159 #[.int .u64 (m:Int)] w fun e w'=>e = .returned (.int .u64 ((maskB (equalB m 128):Nat):Int))∧w=w':=by
 go_enter Tryz.func159,Tryz.ntmps159
 go_wp2_with (go_at_call 172;refine (equal_any m 128 hm (by decide) _).mono ?_;rintro e w' ⟨rfl,rfl⟩)
 go_ret
 exact ⟨rfl,rfl⟩
theorem cfrees_any (m:Nat) (hm:m<18446744073709551616) (w:World) :
 Calls Tryz.prog 157 #[.int .u64 (m:Int)] w fun e w'=>e = .returned (.int .u64 ((maskB (highB m):Nat):Int))∧w=w':=by
 go_enter Tryz.func157,Tryz.ntmps157
 go_wp2_with (go_at_call 168;refine (high_any m hm _).mono ?_;rintro e w' ⟨rfl,rfl⟩)
 go_ret
 exact ⟨rfl,rfl⟩
theorem cfulls_any (m:Nat) (hm:m<18446744073709551616) (w:World) :
 Calls Tryz.prog 144 #[.int .u64 (m:Int)] w fun e w'=>e = .returned (.int .u64 ((maskB (fullB m):Nat):Int))∧w=w':=by
 have H:=high_any (18446744073709551615-m) (by omega)
 rw [fulls_eq m hm] at H
 have hn:=bits_not_u64_nat m hm
 generalize 18446744073709551615-m=q at *
 replace H:=hiq H
 go_enter Tryz.func144,Tryz.ntmps144
 go_wp2_with fail
 clear hn
 refine (H.out _).mono ?_
 rintro e w' ⟨rfl,rfl⟩
 go_wp2
 go_ret
 exact ⟨rfl,rfl⟩
theorem sign_any (b:Nat) (hb:b<256) (w:World) :
 Calls Tryz.prog 148 #[.int .u8 (b:Int)] w fun e w'=>e = .returned (.int .u8 (((signK (kindN b)).toNat:Nat):Int))∧w=w':=by
 by_cases h1:b=128
 · subst h1
   go_enter Tryz.func148,Tryz.ntmps148
   go_wp2
   go_ret
   exact ⟨rfl,rfl⟩
 by_cases h2:b=254
 · subst h2
   go_enter Tryz.func148,Tryz.ntmps148
   go_wp2
   go_ret
   exact ⟨rfl,rfl⟩
 have e1:((b:Int) == 128)=false:=by simp;omega
 have e2:((b:Int) == 254)=false:=by simp;omega
 by_cases h3:b<128
 · rw [show kindN b=3 by unfold kindN;rw [if_neg h1,if_neg h2,if_pos h3]]
   have e3:decide ((b:Int)<128)=true:=by simp;omega
   clear h1 h2 h3
   go_enter Tryz.func148,Tryz.ntmps148
   go_wp2
   go_ret
   exact ⟨rfl,rfl⟩
 · rw [show kindN b=0 by unfold kindN;rw [if_neg h1,if_neg h2,if_neg h3]]
   have e3:decide ((b:Int)<128)=false:=by simp;omega
   clear h1 h2 h3
   go_enter Tryz.func148,Tryz.ntmps148
   go_wp2
   go_ret
   exact ⟨rfl,rfl⟩
theorem zv8b (w:World):(zeroValue 223).run Tryz.prog w = .ok (.agg (byteL fun _=>0).toArray) w:=by kernel_rfl
theorem slice8b (B:Nat) (w:World) :
 (Instr.sliceAt 223 (.pointer (some ⟨B,0,none⟩)) none none none).run Tryz.prog w = .ok (.slice (some ⟨B,0,none⟩) 8 8) w:=by kernel_rfl
def sgn (b:Nat):Nat:=(signK (kindN b)).toNat
theorem text_conv (m B:Nat) (w:World) (h:Blk w B 223 (byteL (fun j=>sgn (ln m j))).toArray) :
 (convert 226 9 (.slice (some ⟨B,0,none⟩) 8 8)).run Tryz.prog w = .ok (.string (textW m)) w:=by
 have:=run_convert_bytes_back (P:=Tryz.prog) w 226 9 5 ⟨B,0,none⟩ 8 ((List.range 8).map fun i=>signK (kindN (ln m i))) Tryz.underlying226 Tryz.underlying5 Tryz.underlying9 (by
  intro j hj
  have hj':j<8:=by simpa using hj
  rw [show (⟨B,0,none⟩:Addr).add j=⟨B,j,none⟩ by simp [Addr.add];intro e;exact e.symm,h.cell,byteL_get _ j hj']
  simp [sgn])
 simpa [textW,textTo] using this
theorem signs_next (m k:Nat):(fun j=>if j=k then sgn (ln m k) else if j<k then sgn (ln m j) else ln m j)=fun j=>if j<k+1 then sgn (ln m j) else ln m j:=by
 funext j
 by_cases e:j=k
 · subst e;rw [if_pos rfl,if_pos (by omega)]
 · rw [if_neg e]
   by_cases c:j<k
   · rw [if_pos c,if_pos (by omega)]
   · rw [if_neg c,if_neg (by omega)]
theorem byteL_congr {f g:Nat→Nat} (h:∀i,i<8→f i=g i):byteL f=byteL g:=by
 simp only [byteL,h 0 (by decide),h 1 (by decide),h 2 (by decide),h 3 (by decide),h 4 (by decide),h 5 (by decide),h 6 (by decide),h 7 (by decide)]
theorem ctext_any (m:Nat) (hm:m<18446744073709551616) (w0:World) :
 Calls Tryz.prog 107 #[.int .u64 (m:Int)] w0 fun e w'=>e = .returned (.string (textW m))∧Below w0.heap.size w0 w':=by
 have hu:=hiq (unfold_any m hm)
 have IX:=hiq (ix_byte (ln m))
 have SG:=hiq (fun (k:Nat) (w:World)=>sign_any (ln m k) (ln_lt m k) w)
 go_enter Tryz.func107,Tryz.ntmps107
 go_wp2_with (first
  | (go_at_call 147;refine (hu.out _).mono ?_;rintro e w1 ⟨rfl,hb1⟩)
  | (refine wpList_value rfl (exec_alloc (t:=223) rfl zv8b) ?_)
  | (refine wpList_unit rfl (exec_storeAll (t:=223) rfl rfl rfl (Blk.new _ _ _) (by rfl) (Tryz.sizeOf223 _) (by exact byteL_one _)) ?_;rw [setRow_new rfl])
  | (refine wpList_value rfl (exec_loadAll (t:=223) rfl rfl Tryz.underlying223 rfl (Blk.new w1 _ (byteL (ln m)).toArray) (Tryz.sizeOf223 _)) ?_))
 have hs:=hb1.size
 have q0:Blk (w1.alloc (.cells (byteL (ln m)).toArray 223)) w1.heap.size 223 (byteL (ln m)).toArray:=Blk.new _ _ _
 have hB1:Below w0.heap.size w0 (w1.alloc (.cells (byteL (ln m)).toArray 223)):=hb1.alloc hs _
 generalize w1.alloc (.cells (byteL (ln m)).toArray 223)=W2 at q0 hB1 ⊢
 obtain ⟨B,hB⟩:=exq w1.heap.size
 rw [←hB] at q0 hs ⊢
 clear hB hb1
 go_loopw [4,5,9] (fun _ _ v9 wr => ∃k:Nat,k≤8∧v9 = .int .i64 (k:Int)∧Blk wr B 223 (byteL (fun j=>if j<k then sgn (ln m j) else ln m j)).toArray∧Below w0.heap.size w0 wr) (fun _ _ v9 _=>8-(intOf v9).toNat)
 case atStart=>exact ⟨0,by omega,rfl,by simpa using q0,hB1⟩
 case round =>
  clear q0 hB1
  obtain ⟨k,hk,rfl,h1,h3⟩:=hrel
  by_cases hlt:k<8
  · have ix:=IX.out k hlt
    have c1:=h1.cell k
    rw [byteL_get _ k hlt] at c1
    have f1:=h1.frozen k
    have sg:=SG.out k
    rw [show (signK (kindN (ln m k))).toNat=sgn (ln m k) from rfl] at sg
    have hst:=hiq (show Blk (wr.setCell ⟨B,k,none⟩ (.int .u8 (sgn (ln m k):Int))) B 223 (byteL (fun j=>if j<k+1 then sgn (ln m j) else ln m j)).toArray by
     have:=h1.set k (.int .u8 (sgn (ln m k):Int));rw [byteL_set _ _ _ hlt,signs_next] at this;exact this)
    replace sg:=hiq sg
    generalize sgn (ln m k)=s at *
    generalize (if k<k then sgn (ln m k) else ln m k)=z at c1
    clear h1
    go_wp2_with (go_at_call 148;refine (sg.out _).mono ?_;rintro e w' ⟨rfl,rfl⟩)
    go_roundw
    case rel=>exact ⟨k+1,by omega,by go_num,hst.out,h3.setCell (by simp;omega) _⟩
    case measure=>simp [intOf];omega
  · obtain rfl:k=8:=by omega
    rw [byteL_congr (g:=fun j=>sgn (ln m j)) (fun i hi=>by rw [if_pos hi])] at h1
    have hc:=text_conv m B wr h1
    have hs:=slice8b B wr
    clear h1
    go_wp2
    go_ret
    exact ⟨rfl,h3⟩
theorem ownsRow_slice {W:World} {base:Nat} {e:TypeId} {size:Nat} {v:Value} {k:Nat} {xs:List Value} (h:W.ownsRow base e size v k xs):∃a cap,v = .slice a k cap:=by
 rcases h.2 with ⟨rfl,rfl⟩ | ⟨g,cap,_,rfl,_⟩
 · exact ⟨_,_,rfl⟩
 · exact ⟨_,_,rfl⟩
theorem ownsRow_own {w w':World} {base:Nat} {e:TypeId} {v:Value} {n:Nat} {xs:List Value} (h:w.ownsRow base e 1 v n xs) (hg:Below w.heap.size w w'):w'.ownsRow base e 1 v n xs:=by
 refine ⟨h.1,?_⟩
 rcases h.2 with h' | ⟨g,cap,cur,rfl,hb,hh,hr⟩
 · exact .inl h'
 · exact .inr ⟨g,cap,cur,rfl,hb,(hg.block g (Array.getElem?_eq_some_iff.1 hh).1).trans hh,hr⟩
theorem ReadsInts.cellsOf {w:World} {v:Value} {xs:List Int} (h:ReadsInts w v xs):∃a cap,v = .slice a xs.length cap∧∀k (hk:k<xs.length),∃b off,a=some ⟨b,off,none⟩∧∀w',Below w.heap.size w w'→w'.cell? ⟨b,off+k,none⟩=some (.int .i64 xs[k]):=by
 obtain ⟨a,cap,rfl,hx⟩:=h
 refine ⟨a,cap,rfl,fun k hk=>?_⟩
 obtain ⟨b,off,rfl,hc⟩:=hx (fun e=>by rw [e] at hk;simp at hk)
 exact ⟨b,off,rfl,fun w' hb=>(hb.cell (World.block_lt_of_cell? _ _ (hc k hk))).trans (hc k hk)⟩
theorem ownsRow_chg {X:Nat→Prop} {w w':World} {base:Nat} {e:TypeId} {size n:Nat} {v:Value} {xs:List Value} (h:w.ownsRow base e size v n xs) (hc:Chg X w w') (hX:∀b,base≤b→¬X b):w'.ownsRow base e size v n xs:=by
 refine ⟨h.1,?_⟩
 rcases h.2 with h' | ⟨g,cap,cur,rfl,hb,hg,hr⟩
 · exact .inl h'
 · exact .inr ⟨g,cap,cur,rfl,hb,(hc.block g (Array.getElem?_eq_some_iff.1 hg).1 (hX g hb)).trans hg,hr⟩
theorem ownsRow_base {w:World} {base base':Nat} {e:TypeId} {size n:Nat} {v:Value} {xs:List Value} (h:w.ownsRow base e size v n xs) (hb:base'≤base):w.ownsRow base' e size v n xs:=by
 refine ⟨h.1,?_⟩
 rcases h.2 with h' | ⟨g,cap,cur,rfl,hb',hg,hr⟩
 · exact .inl h'
 · exact .inr ⟨g,cap,cur,rfl,Nat.le_trans hb hb',hg,hr⟩
theorem ownsRow_empty {w:World} {g:Nat} {e:TypeId} (h:Blk w g e #[]):w.ownsRow g e 1 (.slice (some ⟨g,0,none⟩) 0 0) 0 [] :=
 ⟨by simp,.inr ⟨g,0,#[],rfl,Nat.le_refl _,h,by simp,by decide,rfl,by simp⟩⟩
theorem below_append {w w1:World} {base:Nat} {e:TypeId} {size n:Nat} {v:Value} {xs:List Value} {tmp:Obj} (h:w.ownsRow base e size v n xs) (hb:base≤w.heap.size) (hg:(w.alloc tmp).grownBy w1 v.ownBlock):Below base w w1 :=
 ((Below.refl _ _).alloc hb _).grown hg (by simp;omega) (fun k ek=>(h.lt k ek).1)
open Go.RowKit
theorem laid_tail {P:Program} {w:World} {x:String×DataW Unit} {l:List (String×DataW Unit)} (h:laidMet P (x :: l) w):laidMet P l w:=by
 obtain ⟨m,d⟩:=x
 obtain ⟨ps,⟨g,t,cs,fuel,p,q,hg,ht,hv,hd,hq,rfl⟩,hnd,hr⟩:=h
 exact ⟨q,hq,(List.sublist_append_right _ _).nodup hnd,fun b off hm=>hr b off (List.mem_append_right _ hm)⟩
open Go.ChangeShapes Go.WideShapes Go.ChangeAt Go.RowKit
theorem args_again {H:Type} {enc:TypeId×Value→H} {P:Program} (hl:laidOutB P=true) {W W':World} (hb:Below W.heap.size W W') :
 ∀ (ts:List TypeId) (vs:List Value) (ds:List (DataW H)) (ps:List MemPlace),(∀t∈ts,P.readableRec t=true∧t<P.types.size)→
  DataW.TrodAll enc P W 0 (fun _=>true) true ts vs ds ps→(∀x∈ps,x.block<W.heap.size)→DataW.TrodAll enc P W' 0 (fun b=>decide (b<W.heap.size)) true ts vs ds ps:=by
 intro ts
 induction ts with
 | nil =>
  intro vs ds ps _ h _
  obtain ⟨rfl,rfl,rfl⟩:=trodAll_nil h
  exact trodAll_mk0
 | cons t ts ih =>
  intro vs ds ps hr h hp
  obtain ⟨v,vs',d,ds',p,q,rfl,rfl,rfl,h0,hs⟩:=trodAll_cons h
  have k0:=Below.trod hl (hr t (by simp)).1 (hr t (by simp)).2 h0 hb (fun x hx=>hp x (by simp [hx]))
  have ks:=ih vs' ds' q (fun t' ht'=>hr t' (by simp [ht'])) hs (fun x hx=>hp x (by simp [hx]))
  exact trodAll_cons_mk k0 ks
theorem law_post {H:Type} {enc:TypeId×Value→H} {P:Program} {f:Func} {s:ChangeSpec} {apart fresh handsOn:Bool} {W W':World} {args:Array Value} {ds gs:List (DataW H)} {before:List MemPlace} {tb:TypeId}
 (hW:DataW.Whole enc P f.params.toList s.vars apart W args.toList ds gs before) (hl:laidOutB P=true) (hr:∀t∈f.params.toList,P.readableRec t=true∧t<P.types.size)
 (hv:s.vars = []) (hres:f.resultTypes = #[tb]) (hb:P.underlying tb=some .bool)
 (hs:s.fn H (ds ++ gs) = { results := [.lit (.bool true)],args:=ds}) (hB:Below W.heap.size W W'):s.post enc P f apart fresh handsOn false W args (.bool true) W':=by
 have hlt:∀p∈before,p.block<W.heap.size:=fun p hp=>hW.lt p hp
 have hW':=hW
 obtain ⟨p,q,hA,hV,rfl,_,_⟩:=hW
 rw [hv] at hV
 obtain ⟨rfl,rfl⟩:=trodVars_none hV
 simp only [List.append_nil] at hlt hW' hs
 refine ⟨ds,[],p,[],p,[],hW',?_,?_,?_,World.keptBut_mono (fun x hx=>⟨hx,Or.inr (Or.inl hx)⟩) (hB.frame (fun x=>x∈p)),fun h=>by cases h⟩
 · simp only [List.append_nil,hs,hres]
   exact trodAll_cons_mk (shut_bool hb true) trodAll_mk0
 · simp only [List.append_nil,hs]
   exact args_again hl hB _ _ _ _ hr hA hlt
 · simp only [List.append_nil,hs,hv]
   rfl
theorem row_cell {P:Program} {W:World} {base:Nat} {t u:TypeId} {cs:Array Value} {ts:List TypeId} (h:Row.okWide P W .any base t cs) (hts:P.cellTypes P.depth t=some ts) (i:Nat) (hi:i<cs.size) (hl:i<ts.length) (hu:ts[i]?=some u) :
 ∃v,cs[i]?=some v∧Cell.okWide P W .any base u v:=by
 obtain ⟨ts',h1,_,h3⟩:=h
 obtain rfl:=Option.some.inj (hts.symm.trans h1)
 obtain ⟨u',hu',hc⟩:=h3 i cs[i] (by simp [hi])
 rw [Nat.mod_eq_of_lt hl,hu] at hu'
 obtain rfl:=Option.some.inj hu'
 exact ⟨cs[i],by simp [hi],hc⟩
theorem cell_int {P:Program} {W:World} {base:Nat} {u:TypeId} {k:IntKind} {v:Value} (hu:P.underlying u=some (.int k)) (h:Cell.okWide P W .any base u v):∃n,v = .int k n∧(Lit.int k n).wf=true:=by
 simp only [Cell.okWide,hu] at h
 cases v <;> simp_all [Cell.ok,IntKind.has,Lit.wf]
theorem okWide_row {P:Program} {W:World} {base:Nat} {t:TypeId} {v:Value} (ht:(match P.underlying t with|some (.struct _)|some (.array _ _)=>true|_=>false)=true) (h:Value.okWide P W .any base t v) :
 ∃cs,v = .agg cs∧cs.size=P.cellsOf t∧Row.okWide P W .any base t cs:=by
 unfold Value.okWide at h
 split at h <;> simp_all
theorem laid_mem {P:Program} {w:World} {n:String} {d:DataW Unit}:∀ {l:List (String×DataW Unit)} {ps:List MemPlace},DataW.LaidVars P w l ps→(n,d)∈l→
 ∃g t cs fuel p,P.globalNamed n=some g∧(P.globals[g]?).map (·.type)=some t∧w.var? P n=some cs∧DataW.trod (fun _=>()) P w 0 (fun _=>true) false fuel t cs.toList=some (d,p):=by
 intro l
 induction l with
 | nil=>intro ps _ h;simp at h
 | cons x l ih =>
  intro ps hl hm
  obtain ⟨m,e⟩:=x
  obtain ⟨g,t,cs,fuel,p,q,hg,ht,hv,hd,hq,rfl⟩:=hl
  rcases List.mem_cons.1 hm with h|h
  · cases h
    exact ⟨g,t,cs,fuel,p,hg,ht,hv,hd⟩
  · exact ih hq h
open Go.ChangeShapes Go.WideShapes Go.ChangeAt Go.RowKit
theorem cells_of_ints {H:Type} {enc:TypeId×Value→H} {P:Program} {w:World} {base:Nat} {sp:Nat→Bool} {held:Bool} {fuel:Nat} {t e:TypeId} {n:Nat} {k:IntKind} {cs:List Value} {ss:List Int} {p:List MemPlace}
 (ht:P.underlying t=some (.array n e)) (he:P.underlying e=some (.int k)) (hce:P.cellsOf e=1) (hct:P.cellsOf t=n)
 (h:DataW.trod enc P w base sp held fuel t cs=some (.agg (ss.map fun s => .lit (.int k s)),p)):cs=ss.map fun s=>Value.int k s:=by
 cases fuel with
 | zero=>simp [DataW.trod] at h
 | succ fuel =>
  simp only [DataW.trod,ht,hce,hct,Nat.mul_one] at h
  split at h
  · rename_i hl
    obtain ⟨xs,hm,hx⟩:=Option.map_eq_some_iff.1 h
    have hxs:xs.map (·.1)=ss.map fun s=>(DataW.lit (.int k s):DataW H):=by
     have:=congrArg Prod.fst hx
     simpa using this
    have hxl:xs.length=n:=by simpa using Lib.mapM_length hm
    have hzl:ss.length=n:=by
     have:=congrArg List.length hxs
     simp at this
     omega
    apply List.ext_getElem?
    intro i
    by_cases hi:i<n
    · obtain ⟨b,hb,hf⟩:=Lib.mapM_at hm i i (by simp [hi])
      obtain ⟨z,hc,rfl,_⟩:=DataW.trod_int he hf
      have h1:cs[i]?=some (.int k z):=by
       have:=congrArg (·[0]?) hc
       simpa [List.getElem?_take,List.getElem?_drop] using this
      have h2:(xs.map (·.1))[i]?=some (DataW.lit (.int k z):DataW H):=by simp [hb]
      rw [hxs] at h2
      simp only [List.getElem?_map,Option.map_eq_some_iff,DataW.lit.injEq,Lit.int.injEq] at h2
      obtain ⟨z',hz',_,rfl⟩:=h2
      simp [h1,hz']
    · rw [List.getElem?_eq_none (by omega),List.getElem?_eq_none (by simp;omega)]
  · cases h
theorem laid_ints {P:Program} {w:World} {l:List (String×DataW Unit)} {n:String} {ss:List Int} {g:Nat} {t e:TypeId} {k:Nat} {kd:IntKind}
 (h:laidMet P l w) (hm:(n,(.agg (ss.map fun s => .lit (.int kd s)):DataW Unit))∈l) (hg:P.globalNamed n=some g) (hty:(P.globals[g]?).map (·.type)=some t)
 (ht:P.underlying t=some (.array k e)) (he:P.underlying e=some (.int kd)) (hce:P.cellsOf e=1) (hct:P.cellsOf t=k) (i:Nat) (hi:i<ss.length) :
 w.cell? ⟨g,i,none⟩=some (.int kd (ss.getD i 0)):=by
 obtain ⟨ps,hl,_⟩:=h
 obtain ⟨g',t',cs,fuel,p,hg',ht',hv,hd⟩:=laid_mem hl hm
 obtain rfl:=Option.some.inj (hg.symm.trans hg')
 obtain rfl:=Option.some.inj (hty.symm.trans ht')
 have hc:=cells_of_ints ht he hce hct hd
 have hvc:=World.var?_cell hg hv i
 rw [hvc,←Array.getElem?_toList,hc]
 simp [hi]
open Go.ChangeShapes Go.WideShapes Go.ChangeAt Go.RowKit
theorem tab64_of {w:World} {l:List (String×DataW Unit)} (h:laidMet Tryz.prog l w) (hm:("math/bits.deBruijn64tab",(Rows.laid_math_bits_deBruijn64tab:DataW Unit))∈l):Tab64 w:=by
 intro j hj
 have hd:(Rows.laid_math_bits_deBruijn64tab:DataW Unit) = .agg ((Lib.deBruijn64tab.map (fun n:Nat=>(n:Int))).map fun s => .lit (.int .u8 s)):=rfl
 rw [hd] at hm
 have hc:=laid_ints (g:=17) (t:=247) (e:=5) (k:=64) (kd := .u8) h hm (by kernel_rfl) (by kernel_rfl) Tryz.underlying247 Tryz.underlying5 (by kernel_rfl) (by kernel_rfl) j (by simpa [Lib.deBruijn64tab] using hj)
 rw [hc]
 congr 2
 have hl:j<Lib.deBruijn64tab.length:=by simpa [Lib.deBruijn64tab] using hj
 simp [List.getElem?_eq_getElem hl]
open Go.RowKit
theorem u64_of {a:Int} (h:(Lit.int .u64 a).wf=true):∃n:Nat,n<18446744073709551616∧a=(n:Int):=by
 have h':0≤a∧a≤18446744073709551615:=by simpa [Lit.wf,IntKind.has,IntKind.min,IntKind.max,IntKind.signed,IntKind.bits] using h
 exact ⟨a.toNat,by omega,by omega⟩
open Go.RowKit Go.ChangeShapes Go.WideShapes Go.Deep
def RowsAt (w:World) (v:Value) (n nf:Nat) (kd:IntKind) (f:Nat→Nat→Int):Prop :=
 (∃a cap,v = .slice a n cap∧(n≠0→∃b off,a=some ⟨b,off,none⟩∧∀i,i<n→∀j,j<nf→w.cell? ⟨b,off+(i*nf+j),none⟩=some (.int kd (f i j))))∧
 (∀i,i<n→∀j,j<nf→(Lit.int kd (f i j)).wf=true)∧n≤maxLen
theorem RowsAt.later {w w':World} {v:Value} {n nf:Nat} {kd:IntKind} {f:Nat→Nat→Int} (h:RowsAt w v n nf kd f) (hb:Below w.heap.size w w'):RowsAt w' v n nf kd f:=by
 obtain ⟨⟨a,cap,rfl,hx⟩,hwf,hm⟩:=h
 refine ⟨⟨a,cap,rfl,fun hn=>?_⟩,hwf,hm⟩
 obtain ⟨b,off,rfl,hc⟩:=hx hn
 exact ⟨b,off,rfl,fun i hi j hj=>(hb.cell (World.block_lt_of_cell? _ _ (hc i hi j hj))).trans (hc i hi j hj)⟩
theorem RowsAt.cellAt {w:World} {v:Value} {n nf:Nat} {kd:IntKind} {f:Nat→Nat→Int} (h0:0<nf) (h:RowsAt w v n nf kd f):∃a cap,v = .slice a n cap∧(n≠0→∃b off,a=some ⟨b,off,none⟩∧b<w.heap.size∧∀w',Below w.heap.size w w'→∀i,i<n→∀j,j<nf→w'.cell? ⟨b,off+(i*nf+j),none⟩=some (.int kd (f i j))):=by
 obtain ⟨⟨a,cap,rfl,hx⟩,hwf,hm⟩:=h
 refine ⟨a,cap,rfl,fun hn=>?_⟩
 obtain ⟨b,off,rfl,hc⟩:=hx hn
 exact ⟨b,off,rfl,World.block_lt_of_cell? _ _ (hc 0 (by omega) 0 (by omega)),fun w' hb i hi j hj=>(hb.cell (World.block_lt_of_cell? _ _ (hc i hi j hj))).trans (hc i hi j hj)⟩
theorem cell_spot0 {W:World} {a:Addr} {v:Value} (h:W.cell? a=some v):a.spot=none:=by
 unfold World.cell? at h
 split at h
 · cases hs:a.spot with
   | none=>rfl
   | some x=>simp [hs] at h
 · cases h
theorem add_zero_spot {a:Addr} (h:(a.add 0).spot=none):a=⟨a.block,a.off,none⟩∧∀j,a.add j=⟨a.block,a.off+j,none⟩:=by
 obtain ⟨b,o,s⟩:=a
 have hs:s=none:=by simpa [Addr.add] using h
 subst hs
 refine ⟨rfl,fun j=>?_⟩
 unfold Addr.add;split
 · rename_i hj;simp [hj]
 · rfl
theorem choice2 {p:Nat→Nat→Prop} {q:Nat→Nat→Int→Prop} (h:∀i j,p i j→∃z,q i j z):∃f:Nat→Nat→Int,∀i j,p i j→q i j (f i j):=by
 have h':∀i,∃g:Nat→Int,∀j,p i j→q i j (g j):=fun i=>by
  have:∀j,∃z,p i j→q i j z:=fun j=>by
   by_cases hp:p i j
   · obtain ⟨z,hz⟩:=h i j hp;exact ⟨z,fun _=>hz⟩
   · exact ⟨0,fun h=>absurd h hp⟩
  exact ⟨fun j=>Classical.choose (this j),fun j=>Classical.choose_spec (this j)⟩
 exact ⟨fun i=>Classical.choose (h' i),fun i=>Classical.choose_spec (h' i)⟩
section
variable {H:Type} {enc:TypeId×Value→H} {P:Program} {w:World} {base:Nat} {spare:Nat→Bool} {held:Bool}
theorem rowsAt_of {t e:TypeId} {fs:Array Field} {kd:IntKind} {a:Option Addr} {len cap:Nat} {d:DataW H} {p:List MemPlace} (ht:P.underlying t=some (.slice e)) (he:P.underlying e=some (.struct fs))
 (hone:oneCellFields P fs=true) (hC:P.cellsOf e=fs.size) (h0:0<fs.size) (hk:∀ (j:Nat) (f:Field),fs[j]?=some f→P.underlying f.type=some (.int kd))
 (h:DataW.Trod enc P w base spare held t (.slice a len cap) d p):∃f,RowsAt w (.slice a len cap) len fs.size kd f:=by
 obtain ⟨fuel,hf⟩:=h
 have hf':DataW.trod enc P w base spare held fuel t [.slice a len cap]=some (d,p):=hf
 rcases open_slice ht hf' with ⟨h1,h2⟩ | ⟨a',len',cap',m,n,D,Pl,hcs,hb,hl,hm,hmm,hx,hi⟩
 · simp only [List.cons.injEq,Value.slice.injEq,and_true] at h1
   obtain ⟨rfl,rfl,rfl⟩:=h1
   exact ⟨fun _ _=>0,⟨none,0,rfl,fun h=>absurd rfl h⟩,fun i hi=>by omega,by unfold maxLen;omega⟩
 · simp only [List.cons.injEq,Value.slice.injEq,and_true] at hcs
   obtain ⟨rfl,rfl,rfl⟩:=hcs
   have hml:len≤m:=by rw [hmm];split <;> omega
   have key:∀i,i<len→∀j,j<fs.size→∃z,w.cell? (a'.add (i*fs.size+j))=some (.int kd z)∧(Lit.int kd z).wf=true:=by
    intro i hil j hj
    obtain ⟨cs',hc,ht'⟩:=hi i (by omega)
    rw [hC] at hc
    obtain ⟨ys,n',hn',hy,hlen,hyl,hff⟩:=DataW.trod_struct he ht'
    obtain ⟨_,hcl,hat⟩:=World.cells?_some hc
    have hfj:fs[j]?=some fs[j]:=Array.getElem?_eq_getElem hj
    obtain ⟨ho,hk1⟩:=hone_of hone j _ hfj
    have hcell:=hat j hj
    have h1:=hff j _ hfj
    rw [ho,hk1] at h1
    have hone':(cs'.drop j).take 1 = [cs'[j]'(by omega)]:=by
     rw [List.drop_eq_getElem_cons (by omega)]
     rfl
    rw [hone'] at h1
    have hys:ys[j]?=some (ys[j]'(by omega)):=List.getElem?_eq_getElem (by omega)
    rw [hys] at h1
    obtain ⟨z,hz,_,hwf⟩:=DataW.trod_int (hk j _ hfj) h1
    simp only [List.cons.injEq,and_true] at hz
    refine ⟨z,?_,hwf⟩
    rw [←Go.Deep.add_add,hcell]
    have hv:cs'[j]?=some (cs'[j]'(by omega)):=List.getElem?_eq_getElem (by omega)
    rw [hv,hz]
   obtain ⟨f,hf⟩:=choice2 (p:=fun i j=>i<len∧j<fs.size) (q:=fun i j z=>w.cell? (a'.add (i*fs.size+j))=some (.int kd z)∧(Lit.int kd z).wf=true) (fun i j hp=>key i hp.1 j hp.2)
   refine ⟨f,⟨some a',cap,rfl,fun hn=>?_⟩,fun i hi j hj=>(hf i j ⟨hi,hj⟩).2,by omega⟩
   have hz1:=(hf 0 0 ⟨by omega,h0⟩).1
   rw [Nat.zero_mul] at hz1
   obtain ⟨e1,e2⟩:=add_zero_spot (cell_spot0 hz1)
   refine ⟨a'.block,a'.off,by rw [←e1],fun i hi j hj=>?_⟩
   rw [←e2]
   exact (hf i j ⟨hi,hj⟩).1
def intK (P:Program) (t:TypeId):Option IntKind:=match P.underlying t with|some (.int k)=>some k|_=>none
theorem intK_some {t:TypeId} {k:IntKind} (h:intK P t=some k):P.underlying t=some (.int k):=by
 unfold intK at h;split at h
 · rename_i heq;rw [heq];cases h;rfl
 · cases h
theorem rowsAt_of' {t e:TypeId} {fs:Array Field} {kd:IntKind} {a:Option Addr} {len cap:Nat} {d:DataW H} {p:List MemPlace} (ht:P.underlying t=some (.slice e)) (he:P.underlying e=some (.struct fs))
 (hone:oneCellFields P fs=true) (hC:P.cellsOf e=fs.size) (h0:0<fs.size) (hk:(fs.toList.map fun f=>intK P f.type)=List.replicate fs.size (some kd))
 (h:DataW.Trod enc P w base spare held t (.slice a len cap) d p):∃f,RowsAt w (.slice a len cap) len fs.size kd f :=
 rowsAt_of ht he hone hC h0 (fun j f hf=>intK_some (by
  have h1:(fs.toList.map fun f=>intK P f.type)[j]?=some (intK P f.type):=by rw [List.getElem?_map,Array.getElem?_toList,hf];rfl
  rw [hk,List.getElem?_replicate] at h1
  split at h1
  · exact (Option.some.inj h1).symm
  · cases h1)) h
theorem intsAt_of {t e:TypeId} {kd:IntKind} {a:Option Addr} {len cap:Nat} {d:DataW H} {p:List MemPlace} (ht:P.underlying t=some (.slice e)) (he:P.underlying e=some (.int kd)) (hC:P.cellsOf e=1)
 (h:DataW.Trod enc P w base spare held t (.slice a len cap) d p):∃f:Nat→Int,RowsAt w (.slice a len cap) len 1 kd (fun i _=>f i):=by
 obtain ⟨fuel,hf⟩:=h
 have hf':DataW.trod enc P w base spare held fuel t [.slice a len cap]=some (d,p):=hf
 rcases open_ints ht he hC hf' with ⟨h1,h2⟩ | ⟨a',len',cap',zs,hcs,hb,hl,hm,hz,hx,hi,hw⟩
 · simp only [List.cons.injEq,Value.slice.injEq,and_true] at h1
   obtain ⟨rfl,rfl,rfl⟩:=h1
   exact ⟨fun _=>0,⟨none,0,rfl,fun h=>absurd rfl h⟩,fun i hi=>by omega,by unfold maxLen;omega⟩
 · simp only [List.cons.injEq,Value.slice.injEq,and_true] at hcs
   obtain ⟨rfl,rfl,rfl⟩:=hcs
   have hml:len≤zs.length:=by rw [hz];split <;> omega
   refine ⟨fun i=>zs.getD i 0,⟨some a',cap,rfl,fun hn=>?_⟩,fun i hi' j hj=>hw _ ?_,by omega⟩
   · obtain ⟨e1,e2⟩:=add_zero_spot (cell_spot0 (hi 0 (by omega)))
     refine ⟨a'.block,a'.off,by rw [←e1],fun i hil j hj=>?_⟩
     obtain rfl:j=0:=by omega
     have:=hi i (by omega)
     rw [e2] at this
     simpa using this
   · have:i<zs.length:=by omega
     simp [List.getD,this]
end
open Go.RowKit Go.ChangeShapes Go.WideShapes Go.Deep
section
variable {H:Type} {enc:TypeId×Value→H} {P:Program} {w:World} {base:Nat} {spare:Nat→Bool} {held:Bool}
end
open Go.RowKit Go.ChangeShapes Go.WideShapes Go.Deep
section
variable {H:Type} {enc:TypeId×Value→H} {P:Program} {w:World} {base:Nat} {spare:Nat→Bool} {held:Bool}
theorem trod_field {t:TypeId} {fs:Array Field} {cs:Array Value} {d:DataW H} {p:List MemPlace} (ht:P.underlying t=some (.struct fs)) (hone:oneCellFields P fs=true)
 (h:DataW.Trod enc P w base spare held t (.agg cs) d p) (hC:P.cellsOf t=fs.size) (j:Nat) (f:Field) (hf:fs[j]?=some f):∃v d' p' fuel,cs[j]?=some v∧DataW.trod enc P w base spare held fuel f.type [v]=some (d',p'):=by
 obtain ⟨fuel,hx⟩:=h
 have hx':DataW.trod enc P w base spare held fuel t cs.toList=some (d,p):=hx
 obtain ⟨ys,n',hn',hy,hlen,hyl,hff⟩:=DataW.trod_struct ht hx'
 have hj:j<fs.size:=by
  rcases Nat.lt_or_ge j fs.size with h|h
  · exact h
  · rw [Array.getElem?_eq_none h] at hf;cases hf
 obtain ⟨ho,hk1⟩:=hone_of hone j _ hf
 have hl2:j<cs.toList.length:=by rw [hlen,hC];exact hj
 have h1:=hff j _ hf
 rw [ho,hk1] at h1
 have h2:(cs.toList.drop j).take 1 = [cs.toList[j]'hl2]:=by
  rw [List.drop_eq_getElem_cons hl2]
  rfl
 rw [h2,List.getElem?_eq_getElem (by omega:j<ys.length)] at h1
 refine ⟨cs.toList[j]'hl2,_,_,n',?_,h1⟩
 rw [←Array.getElem?_toList,List.getElem?_eq_getElem hl2]
theorem field_ints {t e:TypeId} {fs:Array Field} {cs:Array Value} {d:DataW H} {p:List MemPlace} {kd:IntKind} (ht:P.underlying t=some (.struct fs)) (hone:oneCellFields P fs=true)
 (h:DataW.Trod enc P w base spare held t (.agg cs) d p) (hC:P.cellsOf t=fs.size) (j:Nat) (f:Field) (hf:fs[j]?=some f) (hs:P.underlying f.type=some (.slice e)) (he:P.underlying e=some (.int kd)) (hCe:P.cellsOf e=1) :
 ∃a len cap,∃g:Nat→Int,cs[j]?=some (.slice a len cap)∧RowsAt w (.slice a len cap) len 1 kd (fun i _=>g i):=by
 obtain ⟨v,d',p',fuel,hv,hx⟩:=trod_field ht hone h hC j f hf
 have hsl:∃a len cap,v = .slice a len cap:=by
  rcases open_ints hs he hCe hx with ⟨h1,-⟩ | ⟨a',len',cap',zs,h1,-⟩
  · simp only [List.cons.injEq,and_true] at h1;exact ⟨_,_,_,h1⟩
  · simp only [List.cons.injEq,and_true] at h1;exact ⟨_,_,_,h1⟩
 obtain ⟨a,len,cap,rfl⟩:=hsl
 obtain ⟨g,hg⟩:=intsAt_of (kd:=kd) hs he hCe (show DataW.Trod enc P w base spare held f.type (.slice a len cap) d' p' from ⟨fuel,hx⟩)
 exact ⟨a,len,cap,g,hv,hg⟩
end
end Go.Proofs.YtcnkgiapidlbkaaGreatDoor
