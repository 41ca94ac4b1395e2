/- Joined texts; conditions within. -/
import Derived.Test.YtolhmibejhldkaaGreatDoorPkEvac3
set_option linter.unusedVariables false
set_option linter.unusedSimpArgs false
set_option maxRecDepth 100000
set_option maxHeartbeats 200000
namespace Go.Proofs.YtolhmibejhldkaaGreatDoor
open Go.RowKit Go.Proofs
theorem Fu (T:ae):∀k,(dN T k).length<=8*k
 | 0=>by simp [dN]
 | k+1=>by rw [kN,List.length_append];have:=Fu T k;have:=lK (T.M k) (T.S k);omega
attribute [local go_sem] neq_nilG eql_nilG
attribute [local go_sem high] run_maxZ
theorem VD (l:List ai):∀u∈cB l,u.oneCell'=true:=by
 intro u hu;unfold cB at hu;simp only [List.mem_flatMap,e3,List.mem_cons,List.not_mem_nil,or_false] at hu;obtain ⟨e,-,rfl|rfl|rfl⟩:=hu <;> rfl
theorem lN {w:World} {ops:Array Oper} {rest:List Oper} {o:Oper} {a:Act} {Q:Exit->Act->World->Prop} (hgd:o.guard=none) (s x:Operand)
 (ho:o.op = .call { callee := .builtin .append,args := #[s,x],argTypes := #[68,68]})
 (base:Nat) (v:Value) (l1:List ai) (hs:a.eval s=v) (hown:w.ownsRow base 46 3 v l1.length (cB l1))
 (y:Value) (agT:Nat) (l2:List ai) (hx:a.eval x=y) (hy:w.ownsRow agT 46 3 y l2.length (cB l2)) (hlen:l1.length+l2.length<=1000000) (hbase:base<=w.heap.size)
 (h:∀v' w',w'.ownsRow base 46 3 v' (l1 ++ l2).length (cB (l1 ++ l2))->Below base w w'->w.grownBy w' v.ownBlock->wpList Tryz.prog ops Q rest (a.put o.dst v') w'):wpList Tryz.prog ops Q (o :: rest) a w:=by
 obtain ⟨i0,hi,hz0,hz1,hz2⟩:=info_parts adV;rcases hy.2 with ⟨e,h0⟩ | ⟨g,cap,cur,e,hb,hh,hr⟩
 . have hl2:l2 = []:=List.eq_nil_of_length_eq_zero h0;subst hl2;subst e;refine wpList_append_own_none hgd _ _ 68 ho base 46 i0 3 Tryz.underlying68 hi _ _ _ hs hown hx ?_;have:=h v w (by simpa using hown) (aM _ _) ⟨rfl,rfl,rfl,aL _,λ_ _ _=>rfl⟩;exact this
 . subst e;refine wpList_append_own w hgd _ _ 68 ho base 46 i0 (.agg #[.int .u64 0,.int .u64 0,.int .u64 0]) 3 24 Tryz.underlying68 hi hz0 hz1 hz2 rfl (by decide) _ _ _ hs hown ⟨g,0,none⟩ l2.length cap (cB l2) hx (mQ _) (λj u hu=>hy.cells (g:=g) rfl j u hu) (VD _) (by unfold maxLen;omega) (by omega) hbase ?_;intro v' w' h1 h2 _;exact h v' w' (by rw [List.length_append,kP];exact h1) ((aM base w).grown h2 hbase (λq eq=>(hown.lt q eq).1)) h2
section
variable {w w' w0:World} {B Q:Nat} {T:ae} {E:Nat->Addr}
structure SR (wx:World) (M O B Q:Nat) (T:ae) (mt:aG) (E:Nat->Addr) (w0 w:World):Prop where
 t:eT wx B Q (some M) T mt E w0
 o:af wx O 46 #[.int .u64 0,.int .u64 0,.int .u64 0]
 b:Below w.heap.size w wx
theorem SR.later {wx w' w w0:World} {M O B Q:Nat} {T:ae} {mt:aG} {E:Nat->Addr} (h:SR wx M O B Q T mt E w0 w) (hb:Below wx.heap.size wx w'):SR w' M O B Q T mt E w0 w:=⟨h.t.later hb,h.o.below hb h.o.lt,h.b.trans (hb.mono h.b.size)⟩
theorem SR.alloc {wx w w0:World} {M O B Q:Nat} {T:ae} {mt:aG} {E:Nat->Addr} (h:SR wx M O B Q T mt E w0 w) (o:Obj):SR (wx.alloc o) M O B Q T mt E w0 w:=h.later ((aM _ _).alloc (aL _) o)
theorem SR.drew {wx w w0:World} {M O B Q:Nat} {T:ae} {mt:aG} {E:Nat->Addr} (h:SR wx M O B Q T mt E w0 w):SR wx.drew M O B Q T mt E w0 w:=h.later (aM _ _).drew
theorem SR.m {wx w w0:World} {M O B Q:Nat} {T:ae} {mt:aG} {E:Nat->Addr} (h:SR wx M O B Q T mt E w0 w):af wx M 37 mt.cells:=h.t.m M rfl
end
end Go.Proofs.YtolhmibejhldkaaGreatDoor
