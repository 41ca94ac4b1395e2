/- A region that draws its order, inside a round's fence: XSeq's rule there. No condition. -/
import Derived.Test.YtcmjddkljmfklaaDoorSeq
import Derived.Test.YtcmjddkljmfklaaDoorRange
import Derived.OrdersIn
namespace Go.Proofs.YtcmjddkljmfklaaDoor
set_option linter.unusedVariables false
open Go.RowKit

section
variable {P : Program} {ops : Array Oper} {Q : Exit → Act → World → Prop} {md : Region.Mode} {X : Nat → Prop} {l n : Nat}
theorem callsIn_round {f : FuncId} {args : Array Value} {w : World} {R : Ending → World → Prop} (h : Calls P f args w R) : CallsIn (Fence.wide.inRound l) n P f args w R :=
  (callsIn_wide (n := n)).2 h
theorem rowsIn_round {row : String} {args : Array Value} {w : World} {R : Value → World → Prop} (h : Rows P row args w R) : RowsIn (Fence.wide.inRound l) n P row args w R :=
  fun c cs _ => let ⟨v, w', r, s⟩ := h c cs; ⟨v, w', r, stepsIn_wide.2 s⟩
theorem operIn_round {o : Oper} {a : Act} {w : World} {K : Act → World → Prop} (hd : ∀ c, o.op ≠ .defer c) (h : o.wp P a w K Q) : o.wpIn (Fence.wide.inRound l) n P a w K Q := by
  refine ⟨fun f _ => trivial, ?_⟩
  rw [Fence.inRound_round, Oper.semAt_some l _ _ hd]
  unfold Oper.wp at h
  generalize (execOp a.eval o).run P w = r at *
  cases r with
  | ok x w' =>
    cases x with
    | enter f args => exact ⟨fun h => by simp [Fence.wide] at h, callsIn_round h⟩
    | row row args => exact ⟨fun h => by simp [Fence.wide] at h, rowsIn_round h⟩
    | round _ _ _ _ _ => exact (show False from h).elim
    | _ => exact h
  | halt x w' => cases x <;> exact h
def noDefer (ops : Array Oper) : Bool := ops.all fun o => match o.op with | .defer _ => false | _ => true
theorem noDefer_spec (h : noDefer ops = true) (j : Nat) (o : Oper) (ho : ops[j]? = some o) : ∀ c, o.op ≠ .defer c := by
  intro c heq
  have := Array.all_eq_true_iff_forall_mem.1 h o (Array.mem_of_getElem? ho)
  simp [heq] at this
theorem wpOp_round (hd : noDefer ops = true) (hL : ¬ LetsOut Q) {i : Nat} {a : Act} {w : World} {K K' : Act → World → Prop} (hK : ∀ a w, K a w → K' a w) (h : wpOp P ops Q i K a w) :
    wpOpIn (Fence.wide.inRound l) n P ops Q i K' a w := by
  unfold wpOp at h
  unfold wpOpIn
  split
  · rename_i ho; simp only [ho] at h; exact hK _ _ h
  · rename_i o ho
    simp only [ho] at h
    split
    · rename_i hw
      simp only [hw, if_true] at h
      rcases h with h | h
      · exact operIn_round (noDefer_spec hd i o ho) (Oper.wp_mono hK h)
      · exact (hL h.2).elim
    · rename_i hw
      simp only [hw] at h
      exact ⟨fun f _ => trivial, hK _ _ h⟩
theorem wpAny_round (hd : noDefer ops = true) (hL : ¬ LetsOut Q) : ∀ (fuel : Nat) (listed : Array Bool) (a : Act) (w : World), wpAny P md ops Q fuel listed a w → wpAnyIn (Fence.wide.inRound l) n P md ops Q fuel listed a w := by
  intro fuel
  induction fuel with
  | zero => exact fun _ _ _ h => h
  | succ fuel ih => exact fun listed a w h => ⟨h.1, fun i hi => wpOp_round hd hL (fun a w => ih _ a w) (h.2 i hi)⟩
/-- **THE RULE, in a round.** -/
theorem wp_region_seqIn {id : Nat} {a : Act} {w : World} (X : Nat → Prop) (ns : Array Note) (loads : Nat) (pl : List (Nat × Nat)) (hm : P.follows .mixedOrders = true)
    (hn : notesOk .any ops ns = true) (hsel : Region.noSelect ops = true) (hlen : pl.length = ops.size) (hk : (pl.all fun x => (ns[x.1]?.map (·.kind)).getD x.2 == x.2) = true) (hp : planOk ns loads (pl.map (·.1)) 0 = true)
    (hQ : ∀ c (a : Act) d v w, Q (.panic c) (a.put d v) w → Q (.panic c) a w) (hd : noDefer ops = true) (hL : ¬ LetsOut Q) (h : wpSeq P ops Q X pl a w.drew) : (Code.region id ops true).wpIn (Fence.wide.inRound l) n P Q a w := by
  refine wpIn_region_any hm (wpAny_round hd hL _ _ _ _ ?_)
  rw [← hlen]
  refine wpAny_of_F hn pl.length _ 0 a _ (fun j hj => ?_) (wpAnyF_of_seq hn hsel hQ pl 0 a w.drew (fun j n _ h0 => by simp at h0) (fun x hx n hxn => ?_) hp h)
  · rw [Array.getElem?_replicate]; simp [hlen, hj]
  · have := List.all_eq_true.1 hk x hx
    simpa [hxn] using this
end
theorem Chg.drewAlloc (X : Nat → Prop) (w : World) (o : Obj) : Chg X w.drew (w.alloc o).drew := ⟨rfl, rfl, rfl, by simp, fun k hk _ => Below.heap_alloc w o k (by simpa using hk)⟩
theorem grown_undrew {w w' : World} {r : Option Nat} (h : w.drew.grownBy w' r) : w.grownBy w' r := ⟨h.os, h.tape, h.output, h.size, h.block⟩
end Go.Proofs.YtcmjddkljmfklaaDoor
