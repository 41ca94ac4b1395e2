/-
  DERIVED. GIVEN WITH THE SEED: THE PROGRAM's TIES (one call each: nine closed facts by the kernel) AND EACH ROW's TIE, after the 31st guide's Derived/Test/Toyas{Tie, Card}.lean. No idea stands in it: it is a product of the set-up. Laid BY PROGRAM, IN A SANDBOX (cutbox-door.mjs). By AI agents, Wed Nov 11 2026. No macro, syntax, notation, axiom, sorry.
-/
import Derived.Test.YtolhmibejhldkaaDoorRows
import Derived.LaidByTextLater
import Derived.SevenTiedAt
import Derived.LaidSub
import Derived.LaidOnce
namespace Go.Proofs.YtolhmibejhldkaaDoor
open Go
set_option maxRecDepth 100000
theorem seatTie1 : Tryd.prog.laidByTextLater [("ambler/api.ErrRange", Rows.laid_ambler_api_ErrRange), ("ambler/api.ErrFull", Rows.laid_ambler_api_ErrFull), ("ambler/api.ErrForm", Rows.laid_ambler_api_ErrForm), ("ambler/api.ErrNone", Rows.laid_ambler_api_ErrNone), ("ambler/api.ErrState", Rows.laid_ambler_api_ErrState), ("ambler/api.ErrBadIter", Rows.laid_ambler_api_ErrBadIter), ("ambler/api.ErrTooMany", Rows.laid_ambler_api_ErrTooMany), ("ambler/api.ErrHash", Rows.laid_ambler_api_ErrHash), ("ambler/api.ErrLong", Rows.laid_ambler_api_ErrLong), ("ambler/api.ErrBroken", Rows.laid_ambler_api_ErrBroken), ("ambler/api.ErrLimit", Rows.laid_ambler_api_ErrLimit), ("ambler/api.ErrEmpty", Rows.laid_ambler_api_ErrEmpty), ("ambler/api.ErrNumber", Rows.laid_ambler_api_ErrNumber), ("ambler/api.ErrKind", Rows.laid_ambler_api_ErrKind), ("ambler/api.ErrName", Rows.laid_ambler_api_ErrName), ("ambler/api.ErrDup", Rows.laid_ambler_api_ErrDup)] [.sentinel, .sentinel, .sentinel, .sentinel, .sentinel, .sentinel, .sentinel, .sentinel, .sentinel, .sentinel, .sentinel, .sentinel, .sentinel, .sentinel, .sentinel, .sentinel] true :=
  Program.laidByTextLater_by_one 313 8 2 (by kernel_rfl) (by kernel_rfl) (by kernel_rfl) (by kernel_rfl) (by kernel_rfl) (by kernel_rfl) (fun _ _ => by kernel_rfl)
theorem noOwnUnsafe : Tryd.pinned.checked.prog.headLifts.contains "ownunsafe" = false := by kernel_rfl
theorem tie : Tryd.prog.laidByTextLater [("ambler/api.ErrRange", Rows.laid_ambler_api_ErrRange), ("ambler/api.ErrFull", Rows.laid_ambler_api_ErrFull), ("ambler/api.ErrNone", Rows.laid_ambler_api_ErrNone), ("ambler/api.ErrDup", Rows.laid_ambler_api_ErrDup)] [.sentinel, .sentinel, .sentinel, .sentinel] true :=
  Program.laidByTextLater.sub seatTie1 ["ambler/api.ErrRange", "ambler/api.ErrFull", "ambler/api.ErrNone", "ambler/api.ErrDup"] (by kernel_rfl) (by kernel_rfl)
theorem schedAlone_row_tie : Rows.schedAloneRow.laidByTextAt .later Tryd.pinned [.sentinel, .sentinel, .sentinel, .sentinel] true :=
  OpenClaim.laidByTextAt_later rfl rfl tie noOwnUnsafe
theorem schedSoon_row_tie : Rows.schedSoonRow.laidByTextAt .later Tryd.pinned [.sentinel, .sentinel, .sentinel, .sentinel] true :=
  OpenClaim.laidByTextAt_later rfl rfl tie noOwnUnsafe
theorem tie2 : Tryd.prog.laidByTextLater [("ambler/api.ErrRange", Rows.laid_ambler_api_ErrRange), ("ambler/api.ErrFull", Rows.laid_ambler_api_ErrFull), ("ambler/api.ErrForm", Rows.laid_ambler_api_ErrForm), ("ambler/api.ErrNone", Rows.laid_ambler_api_ErrNone), ("ambler/api.ErrState", Rows.laid_ambler_api_ErrState), ("ambler/api.ErrBadIter", Rows.laid_ambler_api_ErrBadIter), ("ambler/api.ErrTooMany", Rows.laid_ambler_api_ErrTooMany), ("ambler/api.ErrHash", Rows.laid_ambler_api_ErrHash), ("ambler/api.ErrLong", Rows.laid_ambler_api_ErrLong), ("ambler/api.ErrBroken", Rows.laid_ambler_api_ErrBroken), ("ambler/api.ErrLimit", Rows.laid_ambler_api_ErrLimit), ("ambler/api.ErrEmpty", Rows.laid_ambler_api_ErrEmpty), ("ambler/api.ErrNumber", Rows.laid_ambler_api_ErrNumber), ("ambler/api.ErrKind", Rows.laid_ambler_api_ErrKind), ("ambler/api.ErrName", Rows.laid_ambler_api_ErrName), ("ambler/api.ErrDup", Rows.laid_ambler_api_ErrDup)] [.sentinel, .sentinel, .sentinel, .sentinel, .sentinel, .sentinel, .sentinel, .sentinel, .sentinel, .sentinel, .sentinel, .sentinel, .sentinel, .sentinel, .sentinel, .sentinel] true :=
  Program.laidByTextLater.sub seatTie1 ["ambler/api.ErrRange", "ambler/api.ErrFull", "ambler/api.ErrForm", "ambler/api.ErrNone", "ambler/api.ErrState", "ambler/api.ErrBadIter", "ambler/api.ErrTooMany", "ambler/api.ErrHash", "ambler/api.ErrLong", "ambler/api.ErrBroken", "ambler/api.ErrLimit", "ambler/api.ErrEmpty", "ambler/api.ErrNumber", "ambler/api.ErrKind", "ambler/api.ErrName", "ambler/api.ErrDup"] (by kernel_rfl) (by kernel_rfl)
theorem schedActs_row_tie : Rows.schedActsRow.laidByTextAt .later Tryd.pinned [.sentinel, .sentinel, .sentinel, .sentinel, .sentinel, .sentinel, .sentinel, .sentinel, .sentinel, .sentinel, .sentinel, .sentinel, .sentinel, .sentinel, .sentinel, .sentinel] true :=
  OpenClaim.laidByTextAt_later rfl rfl tie2 noOwnUnsafe
theorem schedAloneUpto_row_tie : Rows.schedAloneUptoRow.laidByTextAt .later Tryd.pinned [.sentinel, .sentinel, .sentinel, .sentinel] true :=
  OpenClaim.laidByTextAt_later rfl rfl tie noOwnUnsafe
theorem schedSoonUpto_row_tie : Rows.schedSoonUptoRow.laidByTextAt .later Tryd.pinned [.sentinel, .sentinel, .sentinel, .sentinel] true :=
  OpenClaim.laidByTextAt_later rfl rfl tie noOwnUnsafe
theorem schedActsUpto_row_tie : Rows.schedActsUptoRow.laidByTextAt .later Tryd.pinned [.sentinel, .sentinel, .sentinel, .sentinel, .sentinel, .sentinel, .sentinel, .sentinel, .sentinel, .sentinel, .sentinel, .sentinel, .sentinel, .sentinel, .sentinel, .sentinel] true :=
  OpenClaim.laidByTextAt_later rfl rfl tie2 noOwnUnsafe
end Go.Proofs.YtolhmibejhldkaaDoor
