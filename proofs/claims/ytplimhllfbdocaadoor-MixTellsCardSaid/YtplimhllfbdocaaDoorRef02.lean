/- The document's slots. No condition. -/
import Derived.Test.YtplimhllfbdocaaDoorCtrlText
namespace Go.Proofs.YtplimhllfbdocaaDoor
set_option linter.unusedVariables false
set_option linter.unusedSimpArgs false
open Go.RowKit Go.Proofs

theorem ss_0 (w : World) : (Instr.slice 9 (.string ⟨#[63, 46, 120, 35]⟩) (some (.int .i64 0)) (some (.int .i64 1)) none).run Tryd.prog w = .ok (.string ⟨#[63]⟩) w := by kernel_rfl
theorem ss_1 (w : World) : (Instr.slice 9 (.string ⟨#[63, 46, 120, 35]⟩) (some (.int .i64 1)) (some (.int .i64 2)) none).run Tryd.prog w = .ok (.string ⟨#[46]⟩) w := by kernel_rfl
theorem ss_2 (w : World) : (Instr.slice 9 (.string ⟨#[63, 46, 120, 35]⟩) (some (.int .i64 2)) (some (.int .i64 3)) none).run Tryd.prog w = .ok (.string ⟨#[120]⟩) w := by kernel_rfl
theorem ss_3 (w : World) : (Instr.slice 9 (.string ⟨#[63, 46, 120, 35]⟩) (some (.int .i64 3)) (some (.int .i64 4)) none).run Tryd.prog w = .ok (.string ⟨#[35]⟩) w := by kernel_rfl
theorem sign_slice (k : Nat) (hk : k ≤ 3) (w : World) : (Instr.slice 9 (.string ⟨#[63, 46, 120, 35]⟩) (some (.int .i64 (k : Int))) (some (.int .i64 ((k : Int) + 1))) none).run Tryd.prog w = .ok (.string ⟨#[signK k]⟩) w := by
  have h : k = 0 ∨ k = 1 ∨ k = 2 ∨ k = 3 := by omega
  clear hk
  rcases h with rfl | rfl | rfl | rfl
  · exact ss_0 w
  · exact ss_1 w
  · exact ss_2 w
  · exact ss_3 w
end Go.Proofs.YtplimhllfbdocaaDoor
