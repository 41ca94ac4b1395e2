/- Joined texts; conditions within. -/
import Derived.Lib.Strings
import Derived.Lib.Slices
import Derived.Lib.Bytealg
import Derived.Carry
import Derived.Laws.AppendOwnNone
import Derived.Test.YtolhmibejhldkaaGreatDoorPkEvac
set_option linter.unusedVariables false
set_option linter.unusedSimpArgs false
set_option maxRecDepth 100000
set_option maxHeartbeats 200000
namespace Go.Proofs.YtolhmibejhldkaaGreatDoor
open Go.RowKit Go.Proofs
attribute [local go_sem] neq_nilG eql_nilG
theorem adV:(Tryz.prog.info? 46).map (λi=>(i.zero,i.size,i.bytes))=some (some (.agg #[.int .u64 0,.int .u64 0,.int .u64 0]),3,24):=by kernel_rfl
section
variable {w w' w0:World} {B Q:Nat} {n:Nat} {E:Nat->Addr}
end
end Go.Proofs.YtolhmibejhldkaaGreatDoor
