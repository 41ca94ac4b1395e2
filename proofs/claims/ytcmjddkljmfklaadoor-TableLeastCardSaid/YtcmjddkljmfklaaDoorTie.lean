/-
  DERIVED. GIVEN WITH THE SEED: THE PROGRAM's TIES (one call each: nine closed facts by the kernel) AND EACH ROW's TIE, after the 31st guide's Derived/Test/Toyas{Tie, Card}.lean. No idea stands in it: it is a product of the set-up. Laid BY PROGRAM, IN A SANDBOX (cutbox-door.mjs). By AI agents, Wed Nov 11 2026. No macro, syntax, notation, axiom, sorry.
-/
import Derived.Test.YtcmjddkljmfklaaDoorRows
import Derived.LaidByTextLater
import Derived.SevenTiedAt
import Derived.LaidSub
import Derived.LaidOnce
namespace Go.Proofs.YtcmjddkljmfklaaDoor
open Go
set_option maxRecDepth 100000
theorem seatTie1 : Tryd.prog.laidByTextLater [("math/bits.deBruijn64tab", Rows.laid_math_bits_deBruijn64tab), ("ambler/api.ErrRange", Rows.laid_ambler_api_ErrRange), ("ambler/api.ErrFull", Rows.laid_ambler_api_ErrFull), ("ambler/api.ErrForm", Rows.laid_ambler_api_ErrForm), ("ambler/api.ErrNone", Rows.laid_ambler_api_ErrNone), ("ambler/api.ErrState", Rows.laid_ambler_api_ErrState), ("ambler/api.ErrBadIter", Rows.laid_ambler_api_ErrBadIter), ("ambler/api.ErrTooMany", Rows.laid_ambler_api_ErrTooMany), ("ambler/api.ErrHash", Rows.laid_ambler_api_ErrHash), ("ambler/api.ErrLong", Rows.laid_ambler_api_ErrLong), ("ambler/api.ErrBroken", Rows.laid_ambler_api_ErrBroken), ("ambler/api.ErrLimit", Rows.laid_ambler_api_ErrLimit), ("ambler/api.ErrEmpty", Rows.laid_ambler_api_ErrEmpty), ("ambler/api.ErrNumber", Rows.laid_ambler_api_ErrNumber), ("ambler/api.ErrKind", Rows.laid_ambler_api_ErrKind), ("ambler/api.ErrName", Rows.laid_ambler_api_ErrName), ("ambler/api.ErrDup", Rows.laid_ambler_api_ErrDup)] [.data, .sentinel, .sentinel, .sentinel, .sentinel, .sentinel, .sentinel, .sentinel, .sentinel, .sentinel, .sentinel, .sentinel, .sentinel, .sentinel, .sentinel, .sentinel, .sentinel] true :=
  Program.laidByTextLater_by_one 318 8 65 (by kernel_rfl) (by kernel_rfl) (by kernel_rfl) (by kernel_rfl) (by kernel_rfl) (by kernel_rfl) (fun _ _ => by kernel_rfl)
theorem noOwnUnsafe : Tryd.pinned.checked.prog.headLifts.contains "ownunsafe" = false := by kernel_rfl
theorem tie : Tryd.prog.laidByTextLater [("ambler/api.ErrRange", Rows.laid_ambler_api_ErrRange), ("ambler/api.ErrFull", Rows.laid_ambler_api_ErrFull), ("ambler/api.ErrForm", Rows.laid_ambler_api_ErrForm), ("ambler/api.ErrNone", Rows.laid_ambler_api_ErrNone), ("ambler/api.ErrState", Rows.laid_ambler_api_ErrState), ("ambler/api.ErrBadIter", Rows.laid_ambler_api_ErrBadIter), ("ambler/api.ErrTooMany", Rows.laid_ambler_api_ErrTooMany), ("ambler/api.ErrHash", Rows.laid_ambler_api_ErrHash), ("ambler/api.ErrLong", Rows.laid_ambler_api_ErrLong), ("ambler/api.ErrBroken", Rows.laid_ambler_api_ErrBroken), ("ambler/api.ErrLimit", Rows.laid_ambler_api_ErrLimit), ("ambler/api.ErrEmpty", Rows.laid_ambler_api_ErrEmpty), ("ambler/api.ErrNumber", Rows.laid_ambler_api_ErrNumber), ("ambler/api.ErrKind", Rows.laid_ambler_api_ErrKind), ("ambler/api.ErrName", Rows.laid_ambler_api_ErrName), ("ambler/api.ErrDup", Rows.laid_ambler_api_ErrDup)] [.sentinel, .sentinel, .sentinel, .sentinel, .sentinel, .sentinel, .sentinel, .sentinel, .sentinel, .sentinel, .sentinel, .sentinel, .sentinel, .sentinel, .sentinel, .sentinel] true :=
  Program.laidByTextLater.sub seatTie1 ["ambler/api.ErrRange", "ambler/api.ErrFull", "ambler/api.ErrForm", "ambler/api.ErrNone", "ambler/api.ErrState", "ambler/api.ErrBadIter", "ambler/api.ErrTooMany", "ambler/api.ErrHash", "ambler/api.ErrLong", "ambler/api.ErrBroken", "ambler/api.ErrLimit", "ambler/api.ErrEmpty", "ambler/api.ErrNumber", "ambler/api.ErrKind", "ambler/api.ErrName", "ambler/api.ErrDup"] (by kernel_rfl) (by kernel_rfl)
theorem probeWalks_row_tie : Rows.probeWalksRow.laidByTextAt .later Tryd.pinned [.sentinel, .sentinel, .sentinel, .sentinel, .sentinel, .sentinel, .sentinel, .sentinel, .sentinel, .sentinel, .sentinel, .sentinel, .sentinel, .sentinel, .sentinel, .sentinel] true :=
  OpenClaim.laidByTextAt_later rfl rfl tie noOwnUnsafe
theorem meterActs_row_tie : Rows.meterActsRow.laidByTextAt .later Tryd.pinned [.sentinel, .sentinel, .sentinel, .sentinel, .sentinel, .sentinel, .sentinel, .sentinel, .sentinel, .sentinel, .sentinel, .sentinel, .sentinel, .sentinel, .sentinel, .sentinel] true :=
  OpenClaim.laidByTextAt_later rfl rfl tie noOwnUnsafe
theorem tie2 : Tryd.prog.laidByTextLater [("math/bits.deBruijn64tab", Rows.laid_math_bits_deBruijn64tab), ("ambler/api.ErrRange", Rows.laid_ambler_api_ErrRange), ("ambler/api.ErrForm", Rows.laid_ambler_api_ErrForm), ("ambler/api.ErrState", Rows.laid_ambler_api_ErrState)] [.data, .sentinel, .sentinel, .sentinel] true :=
  Program.laidByTextLater.sub seatTie1 ["math/bits.deBruijn64tab", "ambler/api.ErrRange", "ambler/api.ErrForm", "ambler/api.ErrState"] (by kernel_rfl) (by kernel_rfl)
theorem groupOrder_row_tie : Rows.groupOrderRow.laidByTextAt .later Tryd.pinned [.data, .sentinel, .sentinel, .sentinel] true :=
  OpenClaim.laidByTextAt_later rfl rfl tie2 noOwnUnsafe
theorem groupOpen_row_tie : Rows.groupOpenRow.laidByTextAt .later Tryd.pinned [.data, .sentinel, .sentinel, .sentinel] true :=
  OpenClaim.laidByTextAt_later rfl rfl tie2 noOwnUnsafe
theorem tie3 : Tryd.prog.laidByTextLater [("math/bits.deBruijn64tab", Rows.laid_math_bits_deBruijn64tab), ("ambler/api.ErrRange", Rows.laid_ambler_api_ErrRange), ("ambler/api.ErrFull", Rows.laid_ambler_api_ErrFull), ("ambler/api.ErrForm", Rows.laid_ambler_api_ErrForm), ("ambler/api.ErrNone", Rows.laid_ambler_api_ErrNone), ("ambler/api.ErrState", Rows.laid_ambler_api_ErrState), ("ambler/api.ErrBadIter", Rows.laid_ambler_api_ErrBadIter), ("ambler/api.ErrTooMany", Rows.laid_ambler_api_ErrTooMany), ("ambler/api.ErrHash", Rows.laid_ambler_api_ErrHash), ("ambler/api.ErrLong", Rows.laid_ambler_api_ErrLong), ("ambler/api.ErrBroken", Rows.laid_ambler_api_ErrBroken), ("ambler/api.ErrLimit", Rows.laid_ambler_api_ErrLimit), ("ambler/api.ErrEmpty", Rows.laid_ambler_api_ErrEmpty), ("ambler/api.ErrNumber", Rows.laid_ambler_api_ErrNumber), ("ambler/api.ErrKind", Rows.laid_ambler_api_ErrKind), ("ambler/api.ErrName", Rows.laid_ambler_api_ErrName), ("ambler/api.ErrDup", Rows.laid_ambler_api_ErrDup)] [.data, .sentinel, .sentinel, .sentinel, .sentinel, .sentinel, .sentinel, .sentinel, .sentinel, .sentinel, .sentinel, .sentinel, .sentinel, .sentinel, .sentinel, .sentinel, .sentinel] true :=
  Program.laidByTextLater.sub seatTie1 ["math/bits.deBruijn64tab", "ambler/api.ErrRange", "ambler/api.ErrFull", "ambler/api.ErrForm", "ambler/api.ErrNone", "ambler/api.ErrState", "ambler/api.ErrBadIter", "ambler/api.ErrTooMany", "ambler/api.ErrHash", "ambler/api.ErrLong", "ambler/api.ErrBroken", "ambler/api.ErrLimit", "ambler/api.ErrEmpty", "ambler/api.ErrNumber", "ambler/api.ErrKind", "ambler/api.ErrName", "ambler/api.ErrDup"] (by kernel_rfl) (by kernel_rfl)
theorem groupActs_row_tie : Rows.groupActsRow.laidByTextAt .later Tryd.pinned [.data, .sentinel, .sentinel, .sentinel, .sentinel, .sentinel, .sentinel, .sentinel, .sentinel, .sentinel, .sentinel, .sentinel, .sentinel, .sentinel, .sentinel, .sentinel, .sentinel] true :=
  OpenClaim.laidByTextAt_later rfl rfl tie3 noOwnUnsafe
theorem tableFunction_row_tie : Rows.tableFunctionRow.laidByTextAt .later Tryd.pinned [.data, .sentinel, .sentinel, .sentinel, .sentinel, .sentinel, .sentinel, .sentinel, .sentinel, .sentinel, .sentinel, .sentinel, .sentinel, .sentinel, .sentinel, .sentinel, .sentinel] true :=
  OpenClaim.laidByTextAt_later rfl rfl tie3 noOwnUnsafe
theorem tableRaw_row_tie : Rows.tableRawRow.laidByTextAt .later Tryd.pinned [.data, .sentinel, .sentinel, .sentinel, .sentinel, .sentinel, .sentinel, .sentinel, .sentinel, .sentinel, .sentinel, .sentinel, .sentinel, .sentinel, .sentinel, .sentinel, .sentinel] true :=
  OpenClaim.laidByTextAt_later rfl rfl tie3 noOwnUnsafe
theorem tableOne_row_tie : Rows.tableOneRow.laidByTextAt .later Tryd.pinned [.data, .sentinel, .sentinel, .sentinel, .sentinel, .sentinel, .sentinel, .sentinel, .sentinel, .sentinel, .sentinel, .sentinel, .sentinel, .sentinel, .sentinel, .sentinel, .sentinel] true :=
  OpenClaim.laidByTextAt_later rfl rfl tie3 noOwnUnsafe
theorem tableLeast_row_tie : Rows.tableLeastRow.laidByTextAt .later Tryd.pinned [.data, .sentinel, .sentinel, .sentinel, .sentinel, .sentinel, .sentinel, .sentinel, .sentinel, .sentinel, .sentinel, .sentinel, .sentinel, .sentinel, .sentinel, .sentinel, .sentinel] true :=
  OpenClaim.laidByTextAt_later rfl rfl tie3 noOwnUnsafe
theorem probeWalksUpto_row_tie : Rows.probeWalksUptoRow.laidByTextAt .later Tryd.pinned [.sentinel, .sentinel, .sentinel, .sentinel, .sentinel, .sentinel, .sentinel, .sentinel, .sentinel, .sentinel, .sentinel, .sentinel, .sentinel, .sentinel, .sentinel, .sentinel] true :=
  OpenClaim.laidByTextAt_later rfl rfl tie noOwnUnsafe
theorem meterActsUpto_row_tie : Rows.meterActsUptoRow.laidByTextAt .later Tryd.pinned [.sentinel, .sentinel, .sentinel, .sentinel, .sentinel, .sentinel, .sentinel, .sentinel, .sentinel, .sentinel, .sentinel, .sentinel, .sentinel, .sentinel, .sentinel, .sentinel] true :=
  OpenClaim.laidByTextAt_later rfl rfl tie noOwnUnsafe
theorem groupOrderUpto_row_tie : Rows.groupOrderUptoRow.laidByTextAt .later Tryd.pinned [.data, .sentinel, .sentinel, .sentinel] true :=
  OpenClaim.laidByTextAt_later rfl rfl tie2 noOwnUnsafe
theorem groupOpenUpto_row_tie : Rows.groupOpenUptoRow.laidByTextAt .later Tryd.pinned [.data, .sentinel, .sentinel, .sentinel] true :=
  OpenClaim.laidByTextAt_later rfl rfl tie2 noOwnUnsafe
theorem groupActsUpto_row_tie : Rows.groupActsUptoRow.laidByTextAt .later Tryd.pinned [.data, .sentinel, .sentinel, .sentinel, .sentinel, .sentinel, .sentinel, .sentinel, .sentinel, .sentinel, .sentinel, .sentinel, .sentinel, .sentinel, .sentinel, .sentinel, .sentinel] true :=
  OpenClaim.laidByTextAt_later rfl rfl tie3 noOwnUnsafe
theorem tableFunctionUpto_row_tie : Rows.tableFunctionUptoRow.laidByTextAt .later Tryd.pinned [.data, .sentinel, .sentinel, .sentinel, .sentinel, .sentinel, .sentinel, .sentinel, .sentinel, .sentinel, .sentinel, .sentinel, .sentinel, .sentinel, .sentinel, .sentinel, .sentinel] true :=
  OpenClaim.laidByTextAt_later rfl rfl tie3 noOwnUnsafe
theorem tableRawUpto_row_tie : Rows.tableRawUptoRow.laidByTextAt .later Tryd.pinned [.data, .sentinel, .sentinel, .sentinel, .sentinel, .sentinel, .sentinel, .sentinel, .sentinel, .sentinel, .sentinel, .sentinel, .sentinel, .sentinel, .sentinel, .sentinel, .sentinel] true :=
  OpenClaim.laidByTextAt_later rfl rfl tie3 noOwnUnsafe
theorem tableOneUpto_row_tie : Rows.tableOneUptoRow.laidByTextAt .later Tryd.pinned [.data, .sentinel, .sentinel, .sentinel, .sentinel, .sentinel, .sentinel, .sentinel, .sentinel, .sentinel, .sentinel, .sentinel, .sentinel, .sentinel, .sentinel, .sentinel, .sentinel] true :=
  OpenClaim.laidByTextAt_later rfl rfl tie3 noOwnUnsafe
theorem tableLeastUpto_row_tie : Rows.tableLeastUptoRow.laidByTextAt .later Tryd.pinned [.data, .sentinel, .sentinel, .sentinel, .sentinel, .sentinel, .sentinel, .sentinel, .sentinel, .sentinel, .sentinel, .sentinel, .sentinel, .sentinel, .sentinel, .sentinel, .sentinel] true :=
  OpenClaim.laidByTextAt_later rfl rfl tie3 noOwnUnsafe
end Go.Proofs.YtcmjddkljmfklaaDoor
