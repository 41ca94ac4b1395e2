/- Joined texts; conditions within. -/
import Derived.LaidEql
import Derived.LaidLaws
import Derived.Below
import Derived.RowKitTokens
import Derived.Stop.Asserts
import Derived.Lib.SlBytesRow
import Derived.Laws.IdiomStrings
import Derived.OwnWalk
import Derived.Test.YtolhmibejhldkaaGreatDoorRows
import Derived.ProofKit
import Derived.OpenShut
import Derived.Deep.DeepHandedRow
import Derived.Deep.DeepWitnessRowRef
import Derived.Lib.LaidTab
import Derived.Deep.Slices
import Derived.Deep.Fields
import Derived.ChangeSame
import Derived.ChangeSlices
import Derived.Test.YtolhmibejhldkaaGreatDoorPkMeter
set_option linter.unusedVariables false
set_option linter.unusedSimpArgs false
set_option maxRecDepth 100000
set_option maxHeartbeats 1600000
namespace Go.Proofs.YtolhmibejhldkaaGreatDoor
def nN (b:Nat):Bool:=decide (b<=128\/b=254)
def bC (m:Nat) (i:Nat):Bool := !fF m i
theorem Vt (m:Nat) (hm:m<18446744073709551616):bQ (fF (18446744073709551615-m))=bQ (bC m):=by
 refine pJ λi hi=>?_;unfold bC fF;rw [NN m i hm hi];have:=CV m i;rw [Bool.eq_iff_iff];simp;omega
theorem Sc {f g:Nat->Bool} (h:bQ f=bQ g):∀i,i<8->f i=g i:=by
 intro i hi;have h1:=Ev f i hi;rw [h,Ev g i hi] at h1;cases hf:f i <;> cases hg:g i <;> simp_all
def dD (b:Nat):Nat:=if b=128 then 1 else if b=254 then 2 else if b<128 then 3 else 0
theorem U4 (b:Nat):dD b<=3:=by
 unfold dD;repeat' split
 all_goals omega
theorem NS (b:Nat):dD b=0↔nN b=false:=by
 unfold dD nN
 repeat' split
 all_goals simp
 all_goals omega
theorem NR (m i:Nat):decide (dD (ln m i)=1)=aU m 128 i:=by
 unfold dD aU
 repeat' split
 all_goals simp_all
theorem Bl (m i:Nat):decide (dD (ln m i)=2)=aU m 254 i:=by
 unfold dD aU
 repeat' split
 all_goals simp_all
theorem Ie (m i:Nat):decide (dD (ln m i)=3)=bC m i:=by
 unfold dD bC fF
 repeat' split
 all_goals simp
 all_goals omega
open Go.RowKit Go.Proofs Go.ChangeShapes Go.WideShapes
theorem cell_spot {W:World} {a:Addr} {v:Value} (h:W.cell? a=some v):a.spot=none:=by
 unfold World.cell? at h;split at h
 . cases hs:a.spot with
   | none=>rfl
   | some x=>simp [hs] at h
 . cases h
inductive o5 {α β:Type} (R:α->β->Prop):List α->List β->Prop
 | nil:o5 R [] []
 | cons {a:α} {b:β} {l:List α} {m:List β} (h:R a b) (r:o5 R l m):o5 R (a :: l) (b :: m)
def BC (P:Program) (Nf:TypeId) (x:String×DataW Unit) (g:Nat):Prop :=
 P.globalNamed x.1=some g/\(P.globals[g]?).map (·.type)=some Nf/\∃text,x.2 = .iface "*errors.errorString" (.ptr (.agg [.lit (.string text)]))
theorem Sn {P:Program} {w:World} {Nf adp ado adn:TypeId} {ms:Array (String×TypeId)} {f:Field}
 (hi:P.underlying Nf=some (.interface ms)) (hrow:∀u,P.typeName? 3 u=some "*errors.errorString"->u=adp)
 (hp:P.underlying adp=some (.pointer ado)) (he:P.underlying ado=some (.struct #[f])) (hft:f.type=adn) (hfo:f.offset=0) (hs:P.underlying adn=some .string)
 (hc:P.cellsOf ado=1) (hcs:P.cellsOf adn=1) :
 ∀ (l:List (String×DataW Unit)) (gs:List Nat) (ps:List MemPlace),DataW.LaidVars P w l ps->o5 (BC P Nf) l gs->
  (∀b off,MemPlace.cell b off∈ps->(∃c t,w.heap[b]?=some (.cells c t (0,0)))/\∀u v,w.cell? ⟨b,off,none⟩=some (.iface u v)->Value.okWide P w .any 0 u v)->
  ∃E:List Addr,o5 (λg a=>w.cell? ⟨g,0,none⟩=some (.iface adp (.pointer (some a)))/\a.spot=none/\∃c t,w.heap[a.block]?=some (.cells c t (0,0))) gs E/\
   (E.map λa=>MemPlace.cell a.block a.off).Sublist ps:=by
 intro l
 induction l with
 | nil =>
  intro gs ps hl hf _;cases hf
  exact ⟨[],.nil,by simp⟩
 | cons x l ih =>
  intro gs ps hl hf hr;cases hf with
  | cons hx hf =>
   rename_i g gs
   obtain ⟨n,d⟩:=x;obtain ⟨g',t,cs,fuel,p,q,hg,ht,hv,hd,hq,rfl⟩:=hl;obtain ⟨hxg,hxt,text,hxd⟩:=hx;simp only at hxg hxt hxd;subst hxd;obtain rfl:=Option.some.inj (hg.symm.trans hxg);obtain rfl:=Option.some.inj (ht.symm.trans hxt);obtain ⟨E,hE,hsub⟩:=ih gs q hq hf (λb off hm=>hr b off (by simp [hm]));obtain ⟨lc⟩:=cs;have hvc:=World.var?_cell hg hv 0
   have ok:∀u v,lc = [.iface u v]->Value.okWide P w .any 0 u v:=λu v e=>by
    subst e;exact (hr g' 0 (by simp [MemPlace.row])).2 u v (by simpa using hvc)
   obtain ⟨a,s,rfl,hca,hsa,hza,rfl⟩:=errorString_of_trod hi hrow hp he hft hfo hs hc hcs hd ok;refine ⟨a :: E,.cons ⟨by simpa using hvc,cell_spot hca,?_⟩ hE,?_⟩
   . exact (hr a.block a.off (by simp [MemPlace.row])).1
   . have e1:MemPlace.row a 1 = [MemPlace.cell a.block a.off]:=by simp [MemPlace.row]
     rw [e1];simp only [List.map_cons,List.append_assoc,List.singleton_append];exact (hsub.cons_cons _).trans (List.sublist_append_right _ _)
theorem Sl {P:Program} {w:World}:∀ {l:List (String×DataW Unit)} {ps:List MemPlace},DataW.LaidVars P w l ps->∀n:Nat,∃ps',DataW.LaidVars P w (l.take n) ps'/\ps'.Sublist ps:=by
 intro l
 induction l with
 | nil=>intro ps h n;exact ⟨[],by simp [DataW.LaidVars],by simp⟩
 | cons x l ih =>
  intro ps h n;obtain ⟨m,d⟩:=x;obtain ⟨g,t,cs,fuel,p,q,hg,ht,hv,hd,hq,rfl⟩:=h;cases n with
  | zero=>exact ⟨[],by simp [DataW.LaidVars],by simp⟩
  | succ n =>
   obtain ⟨q',hq',hs⟩:=ih hq n;exact ⟨MemPlace.row ⟨g,0,none⟩ cs.size ++ p ++ q',⟨g,t,cs,fuel,p,q',hg,ht,hv,hd,hq',rfl⟩,hs.append_left _⟩
theorem QA : "*" ++ "errors.errorString" = "*errors.errorString" := by decide
theorem adH (u:TypeId) (h:Tryz.prog.typeName? 3 u=some "*errors.errorString"):u=259 :=
 typeName_ptr_named (nm := "errors.errorString") (by rw [QA];kernel_rfl) (by kernel_rfl) (by decide) u (by rw [QA];exact h)
theorem ab3 {w:World} {l:List (String×DataW Unit)} {gs:List Nat} (n:Nat) (h:laidMet Tryz.prog l w) (hf:o5 (BC Tryz.prog 27) (l.take n) gs) :
 ∃E:List Addr,o5 (λg a=>w.cell? ⟨g,0,none⟩=some (.iface 259 (.pointer (some a)))/\a.spot=none/\∃c t,w.heap[a.block]?=some (.cells c t (0,0))) gs E/\E.Nodup:=by
 obtain ⟨ps,hl,hnd,hr⟩:=h;obtain ⟨ps',hl',hs⟩:=Sl hl n;obtain ⟨E,hE,hsub⟩:=Sn Tryz.underlying27 adH Tryz.underlying259 Tryz.underlying284 rfl rfl Tryz.underlying9 (by kernel_rfl) (by kernel_rfl) _ _ _ hl' hf (λb off hm=>hr b off (hs.subset hm));refine ⟨E,hE,?_⟩;exact List.Pairwise.of_map (λa:Addr=>MemPlace.cell a.block a.off) (λa b hab h=>hab (by rw [h])) ((hsub.trans hs).nodup hnd)
theorem err_row (P:Program) (Nf:TypeId) (n:String) (text:List UInt8) (g:Nat) (h1:P.globalNamed n=some g) (h2:(P.globals[g]?).map (·.type)=some Nf) :
 BC P Nf (n,.iface "*errors.errorString" (.ptr (.agg [.lit (.string text)]))) g:=⟨h1,h2,text,rfl⟩
open Go.RowKit Go.Proofs Go.ChangeShapes Go.WideShapes Go.Stop Go.Extern
theorem Ll (v:Value) (w:World):(Extern.ReflectliteType.typeOf #[.iface 259 v]).run Tryz.prog w = .ok (.iface 227 (.agg #[.pointer (some ⟨17,259,none⟩)])) w:=by kernel_rfl
def aeZ:Array Value->Sem Value:=Extern.ReflectliteType.method λt=>do Extern.Rtype.noPackHeld "Comparable" t;pure (.bool (<-typeInfo t).comparable)
theorem Bn (w:World):(aeZ #[.agg #[.pointer (some ⟨17,259,none⟩)]]).run Tryz.prog w = .ok (.bool true) w:=by kernel_rfl
theorem lZ (v:Value) (w:World):(Go.method 396 227 v "Comparable").run Tryz.prog w = .ok (215,v) w:=by kernel_rfl
theorem U8:(Tryz.prog.info? 259).map (·.comparable)=some true:=by kernel_rfl
theorem U7:(Tryz.prog.info? 284).map (·.size)=some 1:=by kernel_rfl
theorem af3 (v:Value) (xT:TypeId) (w:World):(Instr.typeAssert (.iface 259 v) xT 229 true).run Tryz.prog w = .ok (.tuple #[.nilIface,.bool false]) w:=run_typeAssert_lacksB Tryz.underlying229 (by kernel_rfl) (by kernel_rfl) v xT w
theorem R9 (v:Value) (xT:TypeId) (w:World):(Instr.typeAssert (.iface 259 v) xT 232 true).run Tryz.prog w = .ok (.tuple #[.nilIface,.bool false]) w:=run_typeAssert_lacksB Tryz.underlying232 (by kernel_rfl) (by kernel_rfl) v xT w
theorem NI (v:Value) (xT:TypeId) (w:World):(Instr.typeAssert (.iface 259 v) xT 233 true).run Tryz.prog w = .ok (.tuple #[.nilIface,.bool false]) w:=run_typeAssert_lacksB Tryz.underlying233 (by kernel_rfl) (by kernel_rfl) v xT w
theorem abG (a:Addr) (w:World) :
 Calls Tryz.prog 62 #[.iface 259 (.pointer (some a)),.iface 259 (.pointer (some a))] w λe w'=>e = .returned (.bool true)/\w=w':=by
 obtain ⟨i,hi,hcmp⟩:=Option.map_eq_some_iff.1 U8;obtain ⟨j,hj,hjs⟩:=Option.map_eq_some_iff.1 U7;have h8 := @run_callFunc_extern Tryz.prog 115 _ Extern.ReflectliteType.typeOf Tryz.func115 (by kernel_rfl) (by kernel_rfl) (by kernel_rfl) (by kernel_rfl);have h32 := @run_callFunc_extern Tryz.prog 215 _ aeZ Tryz.func215 (by kernel_rfl) (by kernel_rfl) (by kernel_rfl) (by kernel_rfl);have tT:=Ll;have cT:=Bn;have mR:=lZ;have heq:=run_eql_iface_ptr_same (P:=Tryz.prog) w a Tryz.underlying27 Tryz.underlying259 hi hcmp hj;go_enter Tryz.func62,Tryz.ntmps62
 go_wp2;refine wp_loop_rounds 1 ?_;rw [rounds_succ];go_wp2;go_ret;exact ⟨rfl,rfl⟩
theorem U6 (a b:Addr) (w:World) (hne:a≠b) (ha:∃c t,w.heap[a.block]?=some (.cells c t (0,0))) (hb:∃c t,w.heap[b.block]?=some (.cells c t (0,0))) :
 Calls Tryz.prog 62 #[.iface 259 (.pointer (some a)),.iface 259 (.pointer (some b))] w λe w'=>e = .returned (.bool false)/\w=w':=by
 obtain ⟨i,hi,hcmp⟩:=Option.map_eq_some_iff.1 U8;obtain ⟨j,hj,hjs⟩:=Option.map_eq_some_iff.1 U7;obtain ⟨ca,ta,ha⟩:=ha;obtain ⟨cb,tb,hb⟩:=hb;have h8 := @run_callFunc_extern Tryz.prog 115 _ Extern.ReflectliteType.typeOf Tryz.func115 (by kernel_rfl) (by kernel_rfl) (by kernel_rfl) (by kernel_rfl);have h32 := @run_callFunc_extern Tryz.prog 215 _ aeZ Tryz.func215 (by kernel_rfl) (by kernel_rfl) (by kernel_rfl) (by kernel_rfl);have tT:=Ll;have cT:=Bn;have mR:=lZ;have nE:=af3;have uE:=R9;have vE:=NI;have heq:=run_eql_iface_ptr_other (P:=Tryz.prog) w Tryz.underlying27 Tryz.underlying259 hi hcmp hj (by rw [hjs];decide) hne ha hb;go_enter Tryz.func62,Tryz.ntmps62
 go_wp2;refine wp_loop_rounds 1 ?_;rw [rounds_succ];go_wp2;go_ret;exact ⟨rfl,rfl⟩
def aO (E:Nat->Addr) (n:Nat):Value := .iface 259 (.pointer (some (E n)))
structure dR (w:World) (E:Nat->Addr):Prop where
 c1:w.cell? ⟨0,0,none⟩=some (aO E 1)
 c2:w.cell? ⟨1,0,none⟩=some (aO E 2)
 c3:w.cell? ⟨8,0,none⟩=some (aO E 3)
 c4:w.cell? ⟨5,0,none⟩=some (aO E 4)
 c5:w.cell? ⟨2,0,none⟩=some (aO E 5)
 c6:w.cell? ⟨9,0,none⟩=some (aO E 6)
 c7:w.cell? ⟨10,0,none⟩=some (aO E 7)
 c8:w.cell? ⟨11,0,none⟩=some (aO E 8)
 c9:w.cell? ⟨12,0,none⟩=some (aO E 9)
 c10:w.cell? ⟨4,0,none⟩=some (aO E 10)
 c11:w.cell? ⟨13,0,none⟩=some (aO E 11)
 c12:w.cell? ⟨3,0,none⟩=some (aO E 12)
 c13:w.cell? ⟨14,0,none⟩=some (aO E 13)
 c14:w.cell? ⟨7,0,none⟩=some (aO E 14)
 c15:w.cell? ⟨15,0,none⟩=some (aO E 15)
 c16:w.cell? ⟨6,0,none⟩=some (aO E 16)
 blk:∀n,1<=n->n<=16->∃c t,w.heap[(E n).block]?=some (.cells c t (0,0))
 apart:∀m n,1<=m->m<=16->1<=n->n<=16->E m=E n->m=n
theorem dR.below {w w':World} {E:Nat->Addr} (h:dR w E) (hb:Below w.heap.size w w'):dR w' E:=by
 have k:∀ {a:Addr} {v:Value},w.cell? a=some v->w'.cell? a=some v:=λc=>(hb.cell (qx _ _ c)).trans c;refine ⟨k h.c1,k h.c2,k h.c3,k h.c4,k h.c5,k h.c6,k h.c7,k h.c8,k h.c9,k h.c10,k h.c11,k h.c12,k h.c13,k h.c14,k h.c15,k h.c16,?_,h.apart⟩;intro n h1 h2;obtain ⟨c,t,hc⟩:=h.blk n h1 h2;exact ⟨c,t,(hb.block _ (Array.getElem?_eq_some_iff.1 hc).1).trans hc⟩
def oJ (E:Nat->Addr):Array Value := #[aO E 1,aO E 2,aO E 3,aO E 4,aO E 5,aO E 6,aO E 7,aO E 8,aO E 9,aO E 10,aO E 11,aO E 12,aO E 13,aO E 14,aO E 15,aO E 16]
theorem Oo (E:Nat->Addr) (k:Nat) (hk:k<16):(oJ E)[k]?=some (aO E (k+1)):=by
 match k,hk with
 | 0,_=>rfl
 | 1,_=>rfl
 | 2,_=>rfl
 | 3,_=>rfl
 | 4,_=>rfl
 | 5,_=>rfl
 | 6,_=>rfl
 | 7,_=>rfl
 | 8,_=>rfl
 | 9,_=>rfl
 | 10,_=>rfl
 | 11,_=>rfl
 | 12,_=>rfl
 | 13,_=>rfl
 | 14,_=>rfl
 | 15,_=>rfl
 | k+16,h=>exact absurd h (by omega)
section laws
variable {P:Program} {ops:Array Oper} {rest:List Oper} {o:Oper} {a:Act} {Q:Exit->Act->World->Prop} {w w':World} {v:Value}
theorem M8 (hgd:o.guard=none) (hrun:(execOp a.eval o).run P w = .ok (.value v) w')
 (h:wpList P ops Q rest (a.put o.dst v) w'):wpList P ops Q (o :: rest) a w:=by
 refine wpList_plain hgd λK hK=>?_;unfold Oper.wp;rw [hrun];exact hK _ _ h
theorem Dk {ρ:Operand->Value} {t e:TypeId} {len:Nat} {parts:Array (Nat×Operand)} {cs:Array Value} (hop:o.op = .buildSlice t len parts) (hu:P.underlying t=some (.slice e)) (hs:∀w,(sizeOf e).run P w = .ok 1 w)
 (hz:∀w,(zeroValue e).run P w = .ok .nilIface w) (h0:len≠0) (h1:len<=1000)
 (hf:Instr.fill (λi=>some (i*1,1)) ((Array.range (len*1)).map (Value.nilIface.cells[· % Value.nilIface.cells.size]!)) (parts.map λ(i,x)=>(i,ρ x)).toList=some cs) :
 (execOp ρ o).run P w = .ok (.value (.slice (some ⟨w.heap.size,0,none⟩) len len)) (w.alloc (.cells cs e)):=by
 have h2:¬len*1 > 2 ^ 24:=by omega
 have h3:¬len*1=0:=by omega
 have hb:∀ps:Array (Nat×Value),Instr.fill (λi=>some (i*1,1)) ((Array.range (len*1)).map (Value.nilIface.cells[· % Value.nilIface.cells.size]!)) ps.toList=some cs->(Instr.buildSlice t len ps).run P w = .ok (.slice (some ⟨w.heap.size,0,none⟩) len len) (w.alloc (.cells cs e)):=by
  intro ps hps;unfold Instr.buildSlice;rw [Sem.run_bind,run_underlying hu];simp only [Result.andThen];rw [Sem.run_bind,hs];simp only [Result.andThen,if_neg h2,if_neg h3];simp [-Nat.mul_one,-Array.size_range,Sem.run_bind,hz,Result.andThen,hps,newRow,run_newObj_alloc]
 simp [execOp,hop,Sem.run_bind,hb _ hf,Result.andThen]
end laws
theorem acj (w:World) (E:Nat->Addr) (h:dR w E) :
 Calls Tryz.prog 61 #[] w λe w'=>e = .returned (.slice (some ⟨w.heap.size,0,none⟩) 16 16)/\w.alloc (.cells (oJ E) 27)=w':=by
 have c1:=h.c1;have c2:=h.c2;have c3:=h.c3;have c4:=h.c4;have c5:=h.c5;have c6:=h.c6;have c7:=h.c7;have c8:=h.c8;have c9:=h.c9;have c10:=h.c10;have c11:=h.c11;have c12:=h.c12;have c13:=h.c13;have c14:=h.c14;have c15:=h.c15;have c16:=h.c16;clear h;go_enter Tryz.func61,Tryz.ntmps61
 go_wp2_with (refine M8 rfl (Dk (t:=118) (cs:=oJ E) rfl Tryz.underlying118 (λw=>Tryz.sizeOf27 w) (λw=>by kernel_rfl) (by decide) (by decide) (by kernel_rfl)) ?_)
 go_ret;exact ⟨rfl,rfl⟩
theorem abq (w:World):Calls Tryz.prog 20 #[.nilIface] w λe w'=>e = .returned (.int .i64 0)/\w=w':=by
 go_enter Tryz.func20,Tryz.ntmps20
 go_wp2;go_ret;exact ⟨rfl,rfl⟩
theorem abr (w:World) (E:Nat->Addr) (h:dR w E) (n:Nat) (h1:1<=n) (h16:n<=16) :
 Calls Tryz.prog 20 #[aO E n] w λe w'=>e = .returned (.int .i64 (n:Int))/\w.alloc (.cells (oJ E) 27)=w':=by
 have hall:=acj w E h;have h':dR (w.alloc (.cells (oJ E) 27)) E:=h.below ((aM _ w).alloc (aL _) _)
 have hcell:∀k:Nat,k<16->(w.alloc (.cells (oJ E) 27)).cell? ⟨w.heap.size,k,none⟩=some (aO E (k+1)):=by
  intro k hk;have:=Oo E k hk;have hb:(w.alloc (.cells (oJ E) 27)).heap[w.heap.size]?=some (.cells (oJ E) 27 (0,0)):=by unfold World.alloc;simp
  unfold World.cell?;rw [hb];simpa using this
 obtain ⟨W,hW⟩:=dC (w.alloc (.cells (oJ E) 27));rw [<-hW] at hall h' hcell;simp only [aO] at hcell ⊢;have HC:=aa hcell;have HE:=aa h';have hW':=aa hW;clear hcell h' hW h;go_enter Tryz.func20,Tryz.ntmps20
 go_wp2_with (go_at_call 61;refine hall.mono ?_;rintro e w' ⟨rfl,rfl⟩)
 go_loop [9] (λv9 => ∃k:Nat,k<n/\v9 = .int .i64 (k:Int)) (λv9=>n-(intOf v9).toNat)
 case atStart=>exact ⟨0,by omega,rfl⟩
 case round =>
  obtain ⟨k,hk,rfl⟩:=hrel;have hc:=HC.out k (by omega);by_cases he:k+1=n
  . subst he;have hs:=abG (E (k+1)) W
    go_wp2_with (go_at_call 62;refine hs.mono ?_;rintro e w' ⟨rfl,rfl⟩)
    go_ret;exact ⟨by simp,hW'.out.symm⟩
  . have ho:=U6 (E n) (E (k+1)) W (λh=>he (HE.out.apart _ _ (by omega) (by omega) (by omega) (by omega) h).symm) (HE.out.blk _ (by omega) (by omega)) (HE.out.blk _ (by omega) (by omega))
    go_wp2_with (go_at_call 62;refine ho.mono ?_;rintro e w' ⟨rfl,rfl⟩)
    go_round
    case rel=>exact ⟨k+1,by omega,by go_num⟩
    case measure=>simp [intOf];omega
open Go.RowKit Go.Proofs Go.ChangeShapes Go.WideShapes
theorem o5.len {α β:Type} {R:α->β->Prop} {l:List α} {m:List β} (h:o5 R l m):l.length=m.length:=by
 induction h with
 | nil=>rfl
 | cons _ _ ih=>simp [ih]
theorem o5.get {α β:Type} {R:α->β->Prop} {l:List α} {m:List β} (h:o5 R l m):∀ (i:Nat) (a:α) (b:β),l[i]?=some a->m[i]?=some b->R a b:=by
 induction h with
 | nil=>intro i a b h;simp at h
 | cons hh _ ih =>
  intro i a b h1 h2;cases i with
  | zero=>simp at h1 h2;subst h1 h2;exact hh
  | succ i=>exact ih i a b (by simpa using h1) (by simpa using h2)
theorem errsAre_of {w:World} {l:List (String×DataW Unit)} (h:laidMet Tryz.prog l w)
 (hf:o5 (BC Tryz.prog 27) (l.take 16) [0,1,8,5,2,9,10,11,12,4,13,3,14,7,15,6]) :
 ∃E,dR w E:=by
 obtain ⟨Es,hE,hnd⟩:=ab3 16 h hf;have hl:Es.length=16:=by have:=hE.len;simpa using this.symm
 have hget:∀i,i<16->Es[i]?=some (Es.getD i ⟨0,0,none⟩):=λi hi=>by
  rw [List.getD_eq_getElem?_getD,List.getElem?_eq_getElem (by omega)];rfl
 have k:=λ(i:Nat) (hi:i<16) (g:Nat) (hg : [0,1,8,5,2,9,10,11,12,4,13,3,14,7,15,6][i]?=some g)=>hE.get i g _ hg (hget i hi);refine ⟨λn=>Es.getD (n-1) ⟨0,0,none⟩,(k 0 (by decide) _ rfl).1,(k 1 (by decide) _ rfl).1,(k 2 (by decide) _ rfl).1,(k 3 (by decide) _ rfl).1,(k 4 (by decide) _ rfl).1,(k 5 (by decide) _ rfl).1,(k 6 (by decide) _ rfl).1,(k 7 (by decide) _ rfl).1,(k 8 (by decide) _ rfl).1,(k 9 (by decide) _ rfl).1,(k 10 (by decide) _ rfl).1,(k 11 (by decide) _ rfl).1,(k 12 (by decide) _ rfl).1,(k 13 (by decide) _ rfl).1,(k 14 (by decide) _ rfl).1,(k 15 (by decide) _ rfl).1,?_,?_⟩
 . intro n h1 h2
   match n,h1,h2 with
   | 1,_,_=>exact (k 0 (by decide) _ rfl).2.2
   | 2,_,_=>exact (k 1 (by decide) _ rfl).2.2
   | 3,_,_=>exact (k 2 (by decide) _ rfl).2.2
   | 4,_,_=>exact (k 3 (by decide) _ rfl).2.2
   | 5,_,_=>exact (k 4 (by decide) _ rfl).2.2
   | 6,_,_=>exact (k 5 (by decide) _ rfl).2.2
   | 7,_,_=>exact (k 6 (by decide) _ rfl).2.2
   | 8,_,_=>exact (k 7 (by decide) _ rfl).2.2
   | 9,_,_=>exact (k 8 (by decide) _ rfl).2.2
   | 10,_,_=>exact (k 9 (by decide) _ rfl).2.2
   | 11,_,_=>exact (k 10 (by decide) _ rfl).2.2
   | 12,_,_=>exact (k 11 (by decide) _ rfl).2.2
   | 13,_,_=>exact (k 12 (by decide) _ rfl).2.2
   | 14,_,_=>exact (k 13 (by decide) _ rfl).2.2
   | 15,_,_=>exact (k 14 (by decide) _ rfl).2.2
   | 16,_,_=>exact (k 15 (by decide) _ rfl).2.2
   | n+17,_,h=>exact absurd h (by omega)
   | 0,h,_=>exact absurd h (by omega)
 . intro m n hm1 hm2 hn1 hn2 he;have h1:=hget (m-1) (by omega);have h2:=hget (n-1) (by omega);have he':Es.getD (m-1) ⟨0,0,none⟩=Es.getD (n-1) ⟨0,0,none⟩:=he;rw [<-he'] at h2;have:=(List.getElem?_inj (by omega) hnd).1 (h1.trans h2.symm);omega
open Go.RowKit Go.Proofs Go.ChangeShapes Go.WideShapes
def agO (k:Nat):Nat:=match k with
 | 1=>0|2=>1|3=>8|4=>5|5=>2|6=>9|7=>10|8=>11|9=>12|10=>4|11=>13|12=>3|13=>14|14=>7|15=>15|_=>6
def EC (w:World) (E:Nat->Addr) (l:List Nat):Prop := ∀k∈l,w.cell? ⟨agO k,0,none⟩=some (aO E k)
theorem EC.below {w w':World} {E:Nat->Addr} {l:List Nat} (h:EC w E l) (hb:Below w.heap.size w w'):EC w' E l:=λk hk=>(hb.cell (qx _ _ (h k hk))).trans (h k hk)
theorem EC.sub {w:World} {E:Nat->Addr} {l l':List Nat} (h:EC w E l) (hs:∀k∈l',k∈l):EC w E l':=λk hk=>h k (hs k hk)
theorem dR.ec {w:World} {E:Nat->Addr} (h:dR w E):EC w E [1,2,3,4,5,6,7,8,9,10,11,12,13,14,15,16]:=by
 intro k hk;have hk':1<=k/\k<=16:=by simp at hk;omega
 obtain ⟨h1,h2⟩:=hk'
 match k,h1,h2 with
 | 1,_,_=>exact h.c1
 | 2,_,_=>exact h.c2
 | 3,_,_=>exact h.c3
 | 4,_,_=>exact h.c4
 | 5,_,_=>exact h.c5
 | 6,_,_=>exact h.c6
 | 7,_,_=>exact h.c7
 | 8,_,_=>exact h.c8
 | 9,_,_=>exact h.c9
 | 10,_,_=>exact h.c10
 | 11,_,_=>exact h.c11
 | 12,_,_=>exact h.c12
 | 13,_,_=>exact h.c13
 | 14,_,_=>exact h.c14
 | 15,_,_=>exact h.c15
 | 16,_,_=>exact h.c16
 | n+17,_,h=>exact absurd h (by omega)
 | 0,h,_=>exact absurd h (by omega)
def jF (E:Nat->Addr) (k:Nat):Value:=if k=0 then .nilIface else aO E k
theorem kG (E:Nat->Addr) (p:Nat) (hp:p<=16) (w:World) (h:dR w E) :
 Calls Tryz.prog 20 #[jF E p] w λe w'=>e = .returned (.int .i64 (p:Int))/\Below w.heap.size w w':=by
 unfold jF;by_cases h0:p=0
 . subst h0;exact (abq w).mono λe w' ⟨a,b⟩=>⟨a,b▸aM _ _⟩
 . rw [if_neg h0];exact (abr w E h p (by omega) hp).mono λe w' ⟨a,b⟩=>⟨a,b▸(aM _ _).alloc (aL _) _⟩
theorem Mq (b:Nat) (hb:b<256) (w:World) :
 Calls Tryz.prog 189 #[.int .u8 (b:Int)] w λe w'=>e = .returned (.bool (nN b))/\w=w':=by
 by_cases h1:b<=128
 . have e1:decide ((b:Int)<=128)=true:=by simp;omega
   have:nN b=true:=by unfold nN;simp;omega
   rw [this];go_enter Tryz.func189,Tryz.ntmps189
   go_wp2;go_ret;exact ⟨rfl,rfl⟩
 . have e1:decide ((b:Int)<=128)=false:=by simp;omega
   have:nN b=((b:Int) == 254):=by unfold nN;rw [Bool.eq_iff_iff];simp;omega
   rw [this];go_enter Tryz.func189,Tryz.ntmps189
   go_wp2;go_ret;exact ⟨rfl,rfl⟩
theorem aat (w:World):Calls Tryz.prog 170 #[] w λe w'=>e = .returned (.int .u64 ((rep 128:Nat):Int))/\w=w':=by
 go_enter Tryz.func170,Tryz.ntmps170
 go_wp2_with (go_at_call 187;refine (Ea 128 (by decide) _).mono ?_;rintro e w' ⟨rfl,rfl⟩)
 go_ret;exact ⟨rfl,rfl⟩
theorem Q5 (m i:Nat) (hm:m<18446744073709551616) (hi:i<8) (w:World) :
 Calls Tryz.prog 148 #[.int .u64 (m:Int),.int .i64 (i:Int)] w λe w'=>e = .returned (.int .u8 ((ln m i:Nat):Int))/\w=w':=by
 go_enter Tryz.func148,Tryz.ntmps148
 go_wp2_with (go_at_call 178;refine (abD m i hm hi _).mono ?_;rintro e w' ⟨rfl,rfl⟩)
 go_ret;exact ⟨rfl,rfl⟩
theorem acd (m i b:Nat) (hm:m<18446744073709551616) (hi:i<8) (hb:b<256) (hc:nN b=true) (w:World) :
 Calls Tryz.prog 179 #[.int .u64 (m:Int),.int .i64 (i:Int),.int .u8 (b:Int)] w λe w'=>e = .returned (.tuple #[.int .u64 ((fB m i b:Nat):Int),.nilIface])/\Below w.heap.size w w':=by
 have HC:=Mq b hb;rw [hc] at HC;replace HC:=aa HC;have e1:decide ((i:Int)<0)=false:=by simp
 have e2:decide ((i:Int)>=8)=false:=by simp;omega
 clear hc;go_enter Tryz.func179,Tryz.ntmps179
 go_wp2_with (first
  | (go_at_call 189;refine (HC.out _).mono ?_;rintro e w' ⟨rfl,rfl⟩)
  | (go_at_call 190;refine (aa2 m i b hm hi hb _).mono ?_;rintro e w' ⟨rfl,rfl⟩))
 go_ret2;exact ⟨rfl,below_drewN (aM _ _) 1⟩
def JD (m h:Nat):Nat:=if h<128 then bQ (aU m h) else 0
theorem Qi (m h:Nat) (hm:m<18446744073709551616) (hh:h<256) (w:World) :
 Calls Tryz.prog 144 #[.int .u64 (m:Int),.int .u8 (h:Int)] w λe w'=>e = .returned (.int .u64 ((JD m h:Nat):Int))/\w=w':=by
 unfold JD;by_cases h1:h<128
 . have e1:decide ((h:Int)>=128)=false:=by simp;omega
   rw [if_pos h1];go_enter Tryz.func144,Tryz.ntmps144
   go_wp2_with (go_at_call 177;refine (Io m h hm hh _).mono ?_;rintro e w' ⟨rfl,rfl⟩)
   go_ret;exact ⟨rfl,rfl⟩
 . have e1:decide ((h:Int)>=128)=true:=by simp;omega
   rw [if_neg h1];go_enter Tryz.func144,Tryz.ntmps144
   go_wp2;go_ret;exact ⟨rfl,rfl⟩
theorem J2 (m:Nat) (hm:m<18446744073709551616) (w:World) :
 Calls Tryz.prog 146 #[.int .u64 (m:Int)] w λe w'=>e = .returned (.int .u64 ((bQ (aU m 128):Nat):Int))/\w=w':=by
 go_enter Tryz.func146,Tryz.ntmps146
 go_wp2_with (go_at_call 177;refine (Io m 128 hm (by decide) _).mono ?_;rintro e w' ⟨rfl,rfl⟩)
 go_ret;exact ⟨rfl,rfl⟩
theorem Qk (m:Nat) (hm:m<18446744073709551616) (w:World) :
 Calls Tryz.prog 142 #[.int .u64 (m:Int)] w λe w'=>e = .returned (.int .u64 ((bQ (fF m):Nat):Int))/\w=w':=by
 go_enter Tryz.func142,Tryz.ntmps142
 go_wp2_with (go_at_call 174;refine (pQ m hm _).mono ?_;rintro e w' ⟨rfl,rfl⟩)
 go_ret;exact ⟨rfl,rfl⟩
theorem Qj (m:Nat) (hm:m<18446744073709551616) (w:World) :
 Calls Tryz.prog 167 #[.int .u64 (m:Int)] w λe w'=>e = .returned (.int .u64 ((bQ (bC m):Nat):Int))/\w=w':=by
 have H:=pQ (18446744073709551615-m) (by omega);rw [Vt m hm] at H;have hn:=nU m hm;generalize 18446744073709551615-m=q at *
 replace H:=aa H;go_enter Tryz.func167,Tryz.ntmps167
 go_wp2_with fail
 clear hn;refine (H.out _).mono ?_;rintro e w' ⟨rfl,rfl⟩
 go_wp2;go_ret;exact ⟨rfl,rfl⟩
theorem bZ {W:World} {base:Nat} {e:TypeId} {size:Nat} {v:Value} {k:Nat} {xs:List Value} (h:W.ownsRow base e size v k xs):∃a cap,v = .slice a k cap:=by
 rcases h.2 with ⟨rfl,rfl⟩ | ⟨g,cap,_,rfl,_⟩
 . exact ⟨_,_,rfl⟩
 . exact ⟨_,_,rfl⟩
theorem jB.cellsOf {w:World} {v:Value} {xs:List Int} (h:jB w v xs):∃a cap,v = .slice a xs.length cap/\∀k (hk:k<xs.length),∃b off,a=some ⟨b,off,none⟩/\∀w',Below w.heap.size w w'->w'.cell? ⟨b,off+k,none⟩=some (.int .i64 xs[k]):=by
 obtain ⟨a,cap,rfl,hx⟩:=h;refine ⟨a,cap,rfl,λk hk=>?_⟩;obtain ⟨b,off,rfl,hc⟩:=hx (λe=>by rw [e] at hk;simp at hk);exact ⟨b,off,rfl,λw' hb=>(hb.cell (qx _ _ (hc k hk))).trans (hc k hk)⟩
theorem fo {X:Nat->Prop} {w w':World} {base:Nat} {e:TypeId} {size n:Nat} {v:Value} {xs:List Value} (h:w.ownsRow base e size v n xs) (hc:ah X w w') (hX:∀b,base<=b->¬X b):w'.ownsRow base e size v n xs:=by
 refine ⟨h.1,?_⟩;rcases h.2 with h' | ⟨g,cap,cur,rfl,hb,hg,hr⟩
 . exact .inl h'
 . exact .inr ⟨g,cap,cur,rfl,hb,(hc.block g (Array.getElem?_eq_some_iff.1 hg).1 (hX g hb)).trans hg,hr⟩
theorem fU {w:World} {base base':Nat} {e:TypeId} {size n:Nat} {v:Value} {xs:List Value} (h:w.ownsRow base e size v n xs) (hb:base'<=base):w.ownsRow base' e size v n xs:=by
 refine ⟨h.1,?_⟩;rcases h.2 with h' | ⟨g,cap,cur,rfl,hb',hg,hr⟩
 . exact .inl h'
 . exact .inr ⟨g,cap,cur,rfl,qH hb hb',hg,hr⟩
theorem gW {w:World} {g:Nat} {e:TypeId} (h:af w g e #[]):w.ownsRow g e 1 (.slice (some ⟨g,0,none⟩) 0 0) 0 [] :=
 ⟨by simp,.inr ⟨g,0,#[],rfl,aL _,h,by simp,by decide,rfl,by simp⟩⟩
theorem Bz {w w1:World} {base:Nat} {e:TypeId} {size n:Nat} {v:Value} {xs:List Value} {tmp:Obj} (h:w.ownsRow base e size v n xs) (hb:base<=w.heap.size) (hg:(w.alloc tmp).grownBy w1 v.ownBlock):Below base w w1 :=
 ((aM _ _).alloc hb _).grown hg (by simp;omega) (λk ek=>(h.lt k ek).1)
open Go.RowKit
theorem laid_tail {P:Program} {w:World} {x:String×DataW Unit} {l:List (String×DataW Unit)} (h:laidMet P (x :: l) w):laidMet P l w:=by
 obtain ⟨m,d⟩:=x;obtain ⟨ps,⟨g,t,cs,fuel,p,q,hg,ht,hv,hd,hq,rfl⟩,hnd,hr⟩:=h;exact ⟨q,hq,(List.sublist_append_right _ _).nodup hnd,λb off hm=>hr b off (List.mem_append_right _ hm)⟩
open Go.ChangeShapes Go.WideShapes Go.ChangeAt Go.RowKit
theorem Qn {H:Type} {enc:TypeId×Value->H} {P:Program} (hl:laidOutB P=true) {W W':World} (hb:Below W.heap.size W W') :
 ∀ (ts:List TypeId) (vs:List Value) (ds:List (DataW H)) (ps:List MemPlace),(∀t∈ts,P.readableRec t=true/\t<P.types.size)->
  DataW.TrodAll enc P W 0 (λ_=>true) true ts vs ds ps->(∀x∈ps,x.block<W.heap.size)->DataW.TrodAll enc P W' 0 (λb=>decide (b<W.heap.size)) true ts vs ds ps:=by
 intro ts
 induction ts with
 | nil =>
  intro vs ds ps _ h _;obtain ⟨rfl,rfl,rfl⟩:=trodAll_nil h;exact trodAll_mk0
 | cons t ts ih =>
  intro vs ds ps hr h hp;obtain ⟨v,vs',d,ds',p,q,rfl,rfl,rfl,h0,hs⟩:=trodAll_cons h;have k0:=Below.trod hl (hr t (by simp)).1 (hr t (by simp)).2 h0 hb (λx hx=>hp x (by simp [hx]));have ks:=ih vs' ds' q (λt' ht'=>hr t' (by simp [ht'])) hs (λx hx=>hp x (by simp [hx]));exact trodAll_cons_mk k0 ks
theorem law_post {H:Type} {enc:TypeId×Value->H} {P:Program} {f:Func} {s:ChangeSpec} {apart fresh handsOn:Bool} {W W':World} {args:Array Value} {ds gs:List (DataW H)} {before:List MemPlace} {tb:TypeId}
 (hW:DataW.Whole enc P f.params.toList s.vars apart W args.toList ds gs before) (hl:laidOutB P=true) (hr:∀t∈f.params.toList,P.readableRec t=true/\t<P.types.size)
 (hv:s.vars = []) (hres:f.resultTypes = #[tb]) (hb:P.underlying tb=some .bool)
 (hs:s.fn H (ds ++ gs) = { results := [.lit (.bool true)],args:=ds}) (hB:Below W.heap.size W W'):s.post enc P f apart fresh handsOn false W args (.bool true) W':=by
 have hlt:∀p∈before,p.block<W.heap.size:=λp hp=>hW.lt p hp;have hW':=hW;obtain ⟨p,q,hA,hV,rfl,_,_⟩:=hW;rw [hv] at hV;obtain ⟨rfl,rfl⟩:=trodVars_none hV;simp only [List.append_nil] at hlt hW' hs;refine ⟨ds,[],p,[],p,[],hW',?_,?_,?_,World.keptBut_mono (λx hx=>⟨hx,Or.inr (Or.inl hx)⟩) (hB.frame (λx=>x∈p)),λh=>by cases h⟩
 . simp only [List.append_nil,hs,hres];exact trodAll_cons_mk (shut_bool hb true) trodAll_mk0
 . simp only [List.append_nil,hs];exact Qn hl hB _ _ _ _ hr hA hlt
 . simp only [List.append_nil,hs,hv];rfl
theorem U3 {P:Program} {w:World} {n:String} {d:DataW Unit}:∀ {l:List (String×DataW Unit)} {ps:List MemPlace},DataW.LaidVars P w l ps->(n,d)∈l->
 ∃g t cs fuel p,P.globalNamed n=some g/\(P.globals[g]?).map (·.type)=some t/\w.var? P n=some cs/\DataW.trod (λ_=>()) P w 0 (λ_=>true) false fuel t cs.toList=some (d,p):=by
 intro l
 induction l with
 | nil=>intro ps _ h;simp at h
 | cons x l ih =>
  intro ps hl hm;obtain ⟨m,e⟩:=x;obtain ⟨g,t,cs,fuel,p,q,hg,ht,hv,hd,hq,rfl⟩:=hl;rcases List.mem_cons.1 hm with h|h
  . cases h
    exact ⟨g,t,cs,fuel,p,hg,ht,hv,hd⟩
  . exact ih hq h
open Go.ChangeShapes Go.WideShapes Go.ChangeAt Go.RowKit
theorem GY {H:Type} {enc:TypeId×Value->H} {P:Program} {w:World} {base:Nat} {sp:Nat->Bool} {held:Bool} {fuel:Nat} {t e:TypeId} {n:Nat} {k:IntKind} {cs:List Value} {ss:List Int} {p:List MemPlace}
 (ht:P.underlying t=some (.array n e)) (he:P.underlying e=some (.int k)) (hce:P.cellsOf e=1) (hct:P.cellsOf t=n)
 (h:DataW.trod enc P w base sp held fuel t cs=some (.agg (ss.map λs => .lit (.int k s)),p)):cs=ss.map λs=>Value.int k s:=by
 cases fuel with
 | zero=>simp [DataW.trod] at h
 | succ fuel =>
  simp only [DataW.trod,ht,hce,hct,Nat.mul_one] at h;split at h
  . rename_i hl
    obtain ⟨xs,hm,hx⟩:=Option.map_eq_some_iff.1 h
    have hxs:xs.map (·.1)=ss.map λs=>(DataW.lit (.int k s):DataW H):=by
     have:=congrArg Prod.fst hx;simpa using this
    have hxl:xs.length=n:=by simpa using Lib.mapM_length hm
    have hzl:ss.length=n:=by
     have:=congrArg List.length hxs;simp at this
     omega
    apply List.ext_getElem?
    intro i;by_cases hi:i<n
    . obtain ⟨b,hb,hf⟩:=Lib.mapM_at hm i i (by simp [hi]);obtain ⟨z,hc,rfl,_⟩:=DataW.trod_int he hf
      have h1:cs[i]?=some (.int k z):=by
       have:=congrArg (·[0]?) hc;simpa [List.getElem?_take,List.getElem?_drop] using this
      have h2:(xs.map (·.1))[i]?=some (DataW.lit (.int k z):DataW H):=by simp [hb]
      rw [hxs] at h2;simp only [List.getElem?_map,Option.map_eq_some_iff,DataW.lit.injEq,Lit.int.injEq] at h2;obtain ⟨z',hz',_,rfl⟩:=h2;simp [h1,hz']
    . rw [List.getElem?_eq_none (by omega),List.getElem?_eq_none (by simp;omega)]
  . cases h
theorem Sm {P:Program} {w:World} {l:List (String×DataW Unit)} {n:String} {ss:List Int} {g:Nat} {t e:TypeId} {k:Nat} {kd:IntKind}
 (h:laidMet P l w) (hm:(n,(.agg (ss.map λs => .lit (.int kd s)):DataW Unit))∈l) (hg:P.globalNamed n=some g) (hty:(P.globals[g]?).map (·.type)=some t)
 (ht:P.underlying t=some (.array k e)) (he:P.underlying e=some (.int kd)) (hce:P.cellsOf e=1) (hct:P.cellsOf t=k) (i:Nat) (hi:i<ss.length) :
 w.cell? ⟨g,i,none⟩=some (.int kd (ss.getD i 0)):=by
 obtain ⟨ps,hl,_⟩:=h;obtain ⟨g',t',cs,fuel,p,hg',ht',hv,hd⟩:=U3 hl hm;obtain rfl:=Option.some.inj (hg.symm.trans hg');obtain rfl:=Option.some.inj (hty.symm.trans ht');have hc:=GY ht he hce hct hd;have hvc:=World.var?_cell hg hv i;rw [hvc,<-Array.getElem?_toList,hc];simp [hi]
open Go.ChangeShapes Go.WideShapes Go.ChangeAt Go.RowKit
theorem tab64_of {w:World} {l:List (String×DataW Unit)} (h:laidMet Tryz.prog l w) (hm:("math/bits.deBruijn64tab",(Rows.laid_math_bits_deBruijn64tab:DataW Unit))∈l):iB w:=by
 intro j hj;have hd:(Rows.laid_math_bits_deBruijn64tab:DataW Unit) = .agg ((Lib.deBruijn64tab.map (λn:Nat=>(n:Int))).map λs => .lit (.int .u8 s)):=rfl;rw [hd] at hm;have hc:=Sm (g:=16) (t:=254) (e:=5) (k:=64) (kd := .u8) h hm (by kernel_rfl) (by kernel_rfl) Tryz.underlying254 Tryz.underlying5 (by kernel_rfl) (by kernel_rfl) j (by simpa [Lib.deBruijn64tab] using hj);rw [hc]
 congr 2
 have hl:j<Lib.deBruijn64tab.length:=by simpa [Lib.deBruijn64tab] using hj
 simp [List.getElem?_eq_getElem hl]
open Go.RowKit
theorem Uc {a:Int} (h:(Lit.int .u64 a).wf=true):∃n:Nat,n<18446744073709551616/\a=(n:Int):=by
 have h':0<=a/\a<=18446744073709551615:=by simpa [Lit.wf,IntKind.has,IntKind.min,IntKind.max,IntKind.signed,IntKind.bits] using h
 exact ⟨a.toNat,by omega,by omega⟩
open Go.RowKit Go.ChangeShapes Go.WideShapes Go.Deep
def mE (w:World) (v:Value) (n nf:Nat) (kd:IntKind) (f:Nat->Nat->Int):Prop :=
 (∃a cap,v = .slice a n cap/\(n≠0->∃b off,a=some ⟨b,off,none⟩/\∀i,i<n->∀j,j<nf->w.cell? ⟨b,off+(i*nf+j),none⟩=some (.int kd (f i j))))/\
 (∀i,i<n->∀j,j<nf->(Lit.int kd (f i j)).wf=true)/\n<=maxLen
theorem mE.later {w w':World} {v:Value} {n nf:Nat} {kd:IntKind} {f:Nat->Nat->Int} (h:mE w v n nf kd f) (hb:Below w.heap.size w w'):mE w' v n nf kd f:=by
 obtain ⟨⟨a,cap,rfl,hx⟩,hwf,hm⟩:=h;refine ⟨⟨a,cap,rfl,λhn=>?_⟩,hwf,hm⟩;obtain ⟨b,off,rfl,hc⟩:=hx hn;exact ⟨b,off,rfl,λi hi j hj=>(hb.cell (qx _ _ (hc i hi j hj))).trans (hc i hi j hj)⟩
theorem mE.cellAt {w:World} {v:Value} {n nf:Nat} {kd:IntKind} {f:Nat->Nat->Int} (h0:0<nf) (h:mE w v n nf kd f):∃a cap,v = .slice a n cap/\(n≠0->∃b off,a=some ⟨b,off,none⟩/\b<w.heap.size/\∀w',Below w.heap.size w w'->∀i,i<n->∀j,j<nf->w'.cell? ⟨b,off+(i*nf+j),none⟩=some (.int kd (f i j))):=by
 obtain ⟨⟨a,cap,rfl,hx⟩,hwf,hm⟩:=h;refine ⟨a,cap,rfl,λhn=>?_⟩;obtain ⟨b,off,rfl,hc⟩:=hx hn;exact ⟨b,off,rfl,qx _ _ (hc 0 (by omega) 0 (by omega)),λw' hb i hi j hj=>(hb.cell (qx _ _ (hc i hi j hj))).trans (hc i hi j hj)⟩
theorem Gq {W:World} {a:Addr} {v:Value} (h:W.cell? a=some v):a.spot=none:=by
 unfold World.cell? at h;split at h
 . cases hs:a.spot with
   | none=>rfl
   | some x=>simp [hs] at h
 . cases h
theorem rG {a:Addr} (h:(a.add 0).spot=none):a=⟨a.block,a.off,none⟩/\∀j,a.add j=⟨a.block,a.off+j,none⟩:=by
 obtain ⟨b,o,s⟩:=a;have hs:s=none:=by simpa [Addr.add] using h
 subst hs;refine ⟨rfl,λj=>?_⟩;unfold Addr.add;split
 . rename_i hj;simp [hj]
 . rfl
theorem ace {p:Nat->Nat->Prop} {q:Nat->Nat->Int->Prop} (h:∀i j,p i j->∃z,q i j z):∃f:Nat->Nat->Int,∀i j,p i j->q i j (f i j):=by
 have h':∀i,∃g:Nat->Int,∀j,p i j->q i j (g j):=λi=>by
  have:∀j,∃z,p i j->q i j z:=λj=>by
   by_cases hp:p i j
   . obtain ⟨z,hz⟩:=h i j hp;exact ⟨z,λ_=>hz⟩
   . exact ⟨0,λh=>absurd h hp⟩
  exact ⟨λj=>Classical.choose (this j),λj=>Classical.choose_spec (this j)⟩
 exact ⟨λi=>Classical.choose (h' i),λi=>Classical.choose_spec (h' i)⟩
section
variable {H:Type} {enc:TypeId×Value->H} {P:Program} {w:World} {base:Nat} {spare:Nat->Bool} {held:Bool}
theorem Rz {t e:TypeId} {fs:Array Field} {kd:IntKind} {a:Option Addr} {len cap:Nat} {d:DataW H} {p:List MemPlace} (ht:P.underlying t=some (.slice e)) (he:P.underlying e=some (.struct fs))
 (hone:oneCellFields P fs=true) (hC:P.cellsOf e=fs.size) (h0:0<fs.size) (hk:∀ (j:Nat) (f:Field),fs[j]?=some f->P.underlying f.type=some (.int kd))
 (h:DataW.Trod enc P w base spare held t (.slice a len cap) d p):∃f,mE w (.slice a len cap) len fs.size kd f:=by
 obtain ⟨fuel,hf⟩:=h;have hf':DataW.trod enc P w base spare held fuel t [.slice a len cap]=some (d,p):=hf;rcases open_slice ht hf' with ⟨h1,h2⟩ | ⟨a',len',cap',m,n,D,Pl,hcs,hb,hl,hm,hmm,hx,hi⟩
 . simp only [List.cons.injEq,Value.slice.injEq,and_true] at h1;obtain ⟨rfl,rfl,rfl⟩:=h1;exact ⟨λ_ _=>0,⟨none,0,rfl,λh=>absurd rfl h⟩,λi hi=>by omega,by unfold maxLen;omega⟩
 . simp only [List.cons.injEq,Value.slice.injEq,and_true] at hcs;obtain ⟨rfl,rfl,rfl⟩:=hcs;have hml:len<=m:=by rw [hmm];split <;> omega
   have key:∀i,i<len->∀j,j<fs.size->∃z,w.cell? (a'.add (i*fs.size+j))=some (.int kd z)/\(Lit.int kd z).wf=true:=by
    intro i hil j hj;obtain ⟨cs',hc,ht'⟩:=hi i (by omega);rw [hC] at hc;obtain ⟨ys,n',hn',hy,hlen,hyl,hff⟩:=DataW.trod_struct he ht';obtain ⟨_,hcl,hat⟩:=World.cells?_some hc;have hfj:fs[j]?=some fs[j]:=Array.getElem?_eq_getElem hj;obtain ⟨ho,hk1⟩:=hone_of hone j _ hfj;have hcell:=hat j hj;have h1:=hff j _ hfj;rw [ho,hk1] at h1
    have hone':(cs'.drop j).take 1 = [cs'[j]'(by omega)]:=by
     rw [List.drop_eq_getElem_cons (by omega)];rfl
    rw [hone'] at h1;have hys:ys[j]?=some (ys[j]'(by omega)):=List.getElem?_eq_getElem (by omega);rw [hys] at h1;obtain ⟨z,hz,_,hwf⟩:=DataW.trod_int (hk j _ hfj) h1;simp only [List.cons.injEq,and_true] at hz;refine ⟨z,?_,hwf⟩;rw [<-Go.Deep.add_add,hcell];have hv:cs'[j]?=some (cs'[j]'(by omega)):=List.getElem?_eq_getElem (by omega);rw [hv,hz]
   obtain ⟨f,hf⟩:=ace (p:=λi j=>i<len/\j<fs.size) (q:=λi j z=>w.cell? (a'.add (i*fs.size+j))=some (.int kd z)/\(Lit.int kd z).wf=true) (λi j hp=>key i hp.1 j hp.2);refine ⟨f,⟨some a',cap,rfl,λhn=>?_⟩,λi hi j hj=>(hf i j ⟨hi,hj⟩).2,by omega⟩;have hz1:=(hf 0 0 ⟨by omega,h0⟩).1;rw [Nat.zero_mul] at hz1;obtain ⟨e1,e2⟩:=rG (Gq hz1);refine ⟨a'.block,a'.off,by rw [<-e1],λi hi j hj=>?_⟩;rw [<-e2];exact (hf i j ⟨hi,hj⟩).1
def U9 (P:Program) (t:TypeId):Option IntKind:=match P.underlying t with|some (.int k)=>some k|_=>none
theorem Sq {t:TypeId} {k:IntKind} (h:U9 P t=some k):P.underlying t=some (.int k):=by
 unfold U9 at h;split at h
 . rename_i heq;rw [heq];cases h;rfl
 . cases h
theorem rowsAt_of' {t e:TypeId} {fs:Array Field} {kd:IntKind} {a:Option Addr} {len cap:Nat} {d:DataW H} {p:List MemPlace} (ht:P.underlying t=some (.slice e)) (he:P.underlying e=some (.struct fs))
 (hone:oneCellFields P fs=true) (hC:P.cellsOf e=fs.size) (h0:0<fs.size) (hk:(fs.toList.map λf=>U9 P f.type)=List.replicate fs.size (some kd))
 (h:DataW.Trod enc P w base spare held t (.slice a len cap) d p):∃f,mE w (.slice a len cap) len fs.size kd f :=
 Rz ht he hone hC h0 (λj f hf=>Sq (by
  have h1:(fs.toList.map λf=>U9 P f.type)[j]?=some (U9 P f.type):=by rw [List.getElem?_map,Array.getElem?_toList,hf];rfl
  rw [hk,List.getElem?_replicate] at h1;split at h1
  . exact (Option.some.inj h1).symm
  . cases h1)) h
theorem intsAt_of {t e:TypeId} {kd:IntKind} {a:Option Addr} {len cap:Nat} {d:DataW H} {p:List MemPlace} (ht:P.underlying t=some (.slice e)) (he:P.underlying e=some (.int kd)) (hC:P.cellsOf e=1)
 (h:DataW.Trod enc P w base spare held t (.slice a len cap) d p):∃f:Nat->Int,mE w (.slice a len cap) len 1 kd (λi _=>f i):=by
 obtain ⟨fuel,hf⟩:=h;have hf':DataW.trod enc P w base spare held fuel t [.slice a len cap]=some (d,p):=hf;rcases open_ints ht he hC hf' with ⟨h1,h2⟩ | ⟨a',len',cap',zs,hcs,hb,hl,hm,hz,hx,hi,hw⟩
 . simp only [List.cons.injEq,Value.slice.injEq,and_true] at h1;obtain ⟨rfl,rfl,rfl⟩:=h1;exact ⟨λ_=>0,⟨none,0,rfl,λh=>absurd rfl h⟩,λi hi=>by omega,by unfold maxLen;omega⟩
 . simp only [List.cons.injEq,Value.slice.injEq,and_true] at hcs;obtain ⟨rfl,rfl,rfl⟩:=hcs;have hml:len<=zs.length:=by rw [hz];split <;> omega
   refine ⟨λi=>zs.getD i 0,⟨some a',cap,rfl,λhn=>?_⟩,λi hi' j hj=>hw _ ?_,by omega⟩
   . obtain ⟨e1,e2⟩:=rG (Gq (hi 0 (by omega)));refine ⟨a'.block,a'.off,by rw [<-e1],λi hil j hj=>?_⟩;obtain rfl:j=0:=by omega
     have:=hi i (by omega);rw [e2] at this;simpa using this
   . have:i<zs.length:=by omega
     simp [List.getD,this]
end
open Go.RowKit Go.ChangeShapes Go.WideShapes Go.Deep
section
variable {H:Type} {enc:TypeId×Value->H} {P:Program} {w:World} {base:Nat} {spare:Nat->Bool} {held:Bool}
end
open Go.RowKit Go.ChangeShapes Go.WideShapes Go.Deep
section
variable {H:Type} {enc:TypeId×Value->H} {P:Program} {w:World} {base:Nat} {spare:Nat->Bool} {held:Bool}
end
end Go.Proofs.YtolhmibejhldkaaGreatDoor
