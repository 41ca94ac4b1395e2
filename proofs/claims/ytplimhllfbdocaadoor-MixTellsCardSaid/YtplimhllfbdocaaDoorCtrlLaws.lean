/- The walks of CtrlTells, CtrlSets and CtrlApart. Condition: the errors. -/
import Derived.Test.YtplimhllfbdocaaDoorRef02
import Derived.Test.YtplimhllfbdocaaDoorSwarCount
namespace Go.Proofs.YtplimhllfbdocaaDoor
set_option linter.unusedVariables false
set_option linter.unusedSimpArgs false
open Go.RowKit Go.Proofs

theorem alive2_text : textW (setL (rep 128) 2 5) = ⟨#[46, 46, 35, 46, 46, 46, 46, 46]⟩ := by
  have : (textW (setL (rep 128) 2 5)).data = #[46, 46, 35, 46, 46, 46, 46, 46] := by decide +kernel
  exact ByteArray.ext this
theorem alive2_match : matchN (setL (rep 128) 2 5) 5 = 8388608 := by decide +kernel
theorem alive2_right : rightB (setL (rep 128) 2 5) = true := by decide +kernel
end Go.Proofs.YtplimhllfbdocaaDoor
