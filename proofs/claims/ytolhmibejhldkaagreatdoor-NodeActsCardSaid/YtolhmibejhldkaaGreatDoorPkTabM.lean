/- Joined texts; conditions within. -/
import Derived.Test.YtolhmibejhldkaaGreatDoorPkTake
set_option linter.unusedVariables false
set_option linter.unusedSimpArgs false
set_option maxRecDepth 100000
set_option maxHeartbeats 200000
namespace Go.Proofs.YtolhmibejhldkaaGreatDoor
open Go.RowKit Go.Proofs
section
variable {w w' w0:World} {B Q C R M:Nat} {T T':ae} {mt:aG} {E:Nat->Addr}
theorem TN.ae0 (h:TN w C R T E w0) (hc:ah (λb=>b=M\/b=B\/b=Q) w w') (hM:w0.heap.size<=M) (hB:w0.heap.size<=B) (hQ:w0.heap.size<=Q) (h1:C≠M/\C≠B/\C≠Q) (h2:R≠M/\R≠B/\R≠Q):TN w' C R T E w0 :=
 eT.aA h hc (by rintro b (rfl|rfl|rfl) <;> assumption) (by rintro (e|e|e) <;> omega) (by rintro (e|e|e) <;> omega) (λb e=>by cases e)
theorem TN.agR (h:TN w C R T E w0) (hc:ah (λb=>b=M) w w') (hM:w0.heap.size<=M) (h1:C≠M) (h2:R≠M):TN w' C R T E w0 :=
 eT.aA h hc (by rintro b rfl;assumption) h1 h2 (λb e=>by cases e)
theorem TN.aio (hS:TN w B Q T E w0) (hM:af w M 37 mt.cells) (h1:M≠B) (h2:M≠Q) (h3:w0.heap.size<=M) (key v:Int) (h:Nat) (hh:h<18446744073709551616) (x y z:Int) :
 Calls Tryz.prog 154 #[.pointer (some ⟨B,0,none⟩),.agg #[.pointer (some ⟨M,0,none⟩),.int .i64 x,.int .i64 y,.int .i64 z],.agg #[.int .u64 key,.int .u64 v,.int .u64 (h:Int)]] w λe w' =>
  e = .returned (.tuple #[.bool (T.bB key h),jF E (T.bN key h)])/\TN w' B Q (T.aR key v h) E w0/\af w' M 37 (addN mt x y z (T.looks key h)).cells/\ah (λb=>b=M\/b=B\/b=Q) w w':=by
 refine (eT.put (hS.acD hM h1 h2 h3) key v h hh _ (di.m M) x y z).mono ?_;rintro e w' ⟨rfl,h4,h5⟩
 exact ⟨rfl,h4.Ay,h4.m M rfl,h5.mono (λi _ e=>by
  rcases e with e|e
  . exact .inl (Option.some.inj e).symm
  . exact .inr e)⟩
end
end Go.Proofs.YtolhmibejhldkaaGreatDoor
