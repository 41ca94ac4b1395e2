/- Texts joined: SoundP Sound. No condition but those that stand within. -/
import Derived.Test.YtcnkgiapidlbkaaGreatDoorPkSwar
import Derived.Test.YtcnkgiapidlbkaaGreatDoorPkMeter
import Derived.Test.YtcnkgiapidlbkaaGreatDoorPkErrs
import Derived.Test.YtcnkgiapidlbkaaGreatDoorPkGroup
import Derived.Test.YtcnkgiapidlbkaaGreatDoorPkTab
import Derived.Test.YtcnkgiapidlbkaaGreatDoorPkTab2
import Derived.Test.YtcnkgiapidlbkaaGreatDoorPkTab3
import Derived.Test.YtcnkgiapidlbkaaGreatDoorPkTake
import Derived.Test.YtcnkgiapidlbkaaGreatDoorPkTabM
import Derived.Test.YtcnkgiapidlbkaaGreatDoorPkBuild
import Derived.Test.YtcnkgiapidlbkaaGreatDoorPkEvac
import Derived.Test.YtcnkgiapidlbkaaGreatDoorPkSound
import Derived.Test.YtcnkgiapidlbkaaGreatDoorPkRef09
import Derived.Test.YtcnkgiapidlbkaaGreatDoorPkEvac2
import Derived.Test.YtcnkgiapidlbkaaGreatDoorPkEvac3
set_option linter.unusedVariables false
set_option linter.unusedSimpArgs false
set_option maxRecDepth 100000
set_option maxHeartbeats 200000
namespace Go.Proofs.YtcnkgiapidlbkaaGreatDoor
open Go.RowKit Go.Proofs
theorem entsTo_len (T:TabS):∀k,(entsTo' T k).length≤8*k
 | 0=>by simp [entsTo']
 | k+1=>by rw [entsTo_snoc,List.length_append];have:=entsTo_len T k;have:=entsL_len (T.M k) (T.S k);omega
attribute [local go_sem] neq_nilG eql_nilG
attribute [local go_sem high] run_maxZ
theorem entV_one (l:List EntS):∀u∈entV l,u.oneCell'=true:=by
 intro u hu
 unfold entV at hu
 simp only [List.mem_flatMap,e3,List.mem_cons,List.not_mem_nil,or_false] at hu
 obtain ⟨e,-,rfl|rfl|rfl⟩:=hu <;> rfl
theorem wpList_append_ents {w:World} {ops:Array Oper} {rest:List Oper} {o:Oper} {a:Act} {Q:Exit→Act→World→Prop} (hgd:o.guard=none) (s x:Operand)
 (ho:o.op = .call { callee := .builtin .append,args := #[s,x],argTypes := #[63,63]})
 (base:Nat) (v:Value) (l1:List EntS) (hs:a.eval s=v) (hown:w.ownsRow base 41 3 v l1.length (entV l1))
 (y:Value) (base2:Nat) (l2:List EntS) (hx:a.eval x=y) (hy:w.ownsRow base2 41 3 y l2.length (entV l2)) (hlen:l1.length+l2.length≤1000000) (hbase:base≤w.heap.size)
 (h:∀v' w',w'.ownsRow base 41 3 v' (l1 ++ l2).length (entV (l1 ++ l2))→Below base w w'→w.grownBy w' v.ownBlock→wpList Tryz.prog ops Q rest (a.put o.dst v') w'):wpList Tryz.prog ops Q (o :: rest) a w:=by
 obtain ⟨i0,hi,hz0,hz1,hz2⟩:=info_parts infoET
 rcases hy.2 with ⟨e,h0⟩ | ⟨g,cap,cur,e,hb,hh,hr⟩
 · have hl2:l2 = []:=List.eq_nil_of_length_eq_zero h0
   subst hl2
   subst e
   refine wpList_append_own_none hgd _ _ 63 ho base 41 i0 3 Tryz.underlying63 hi _ _ _ hs hown hx ?_
   have:=h v w (by simpa using hown) (Below.refl _ _) ⟨rfl,rfl,rfl,Nat.le_refl _,fun _ _ _=>rfl⟩
   exact this
 · subst e
   refine wpList_append_own w hgd _ _ 63 ho base 41 i0 (.agg #[.int .u64 0,.int .u64 0,.int .u64 0]) 3 24 Tryz.underlying63 hi hz0 hz1 hz2 rfl (by decide) _ _ _ hs hown ⟨g,0,none⟩ l2.length cap (entV l2) hx (entV_length _) (fun j u hu=>hy.cells (g:=g) rfl j u hu) (entV_one _) (by unfold maxLen;omega) (by omega) hbase ?_
   intro v' w' h1 h2 _
   exact h v' w' (by rw [List.length_append,entV_append];exact h1) ((Below.refl base w).grown h2 hbase (fun q eq=>(hown.lt q eq).1)) h2
section
variable {w w' w0:World} {B Q:Nat} {T:TabS} {E:Nat→Addr}
structure SR (wx:World) (M O B Q:Nat) (T:TabS) (mt:MeterS) (E:Nat→Addr) (w0 w:World):Prop where
 t:TMW wx B Q (some M) T mt E w0
 o:Blk wx O 41 #[.int .u64 0,.int .u64 0,.int .u64 0]
 b:Below w.heap.size w wx
theorem SR.later {wx w' w w0:World} {M O B Q:Nat} {T:TabS} {mt:MeterS} {E:Nat→Addr} (h:SR wx M O B Q T mt E w0 w) (hb:Below wx.heap.size wx w'):SR w' M O B Q T mt E w0 w:=⟨h.t.later hb,h.o.below hb h.o.lt,h.b.trans (hb.mono h.b.size)⟩
theorem SR.alloc {wx w w0:World} {M O B Q:Nat} {T:TabS} {mt:MeterS} {E:Nat→Addr} (h:SR wx M O B Q T mt E w0 w) (o:Obj):SR (wx.alloc o) M O B Q T mt E w0 w:=h.later ((Below.refl _ _).alloc (Nat.le_refl _) o)
theorem SR.drew {wx w w0:World} {M O B Q:Nat} {T:TabS} {mt:MeterS} {E:Nat→Addr} (h:SR wx M O B Q T mt E w0 w):SR wx.drew M O B Q T mt E w0 w:=h.later (Below.refl _ _).drew
theorem SR.m {wx w w0:World} {M O B Q:Nat} {T:TabS} {mt:MeterS} {E:Nat→Addr} (h:SR wx M O B Q T mt E w0 w):Blk wx M 36 mt.cells:=h.t.m M rfl
end
end Go.Proofs.YtcnkgiapidlbkaaGreatDoor
