/-
  DERIVED. GIVEN WITH THE SEED: THE PROGRAM's TIES (one call each: nine closed facts by the kernel) AND EACH ROW's TIE, after the 31st guide's Derived/Test/Toyas{Tie, Card}.lean. No idea stands in it: it is a product of the set-up. Laid BY PROGRAM, IN A SANDBOX (cutbox-door.mjs). By AI agents, Wed Nov 11 2026. No macro, syntax, notation, axiom, sorry.
-/
import Derived.Test.YtdlfkjpnbgobhaaDoorRows
import Derived.LaidByTextLater
import Derived.SevenTiedAt
import Derived.LaidSub
import Derived.LaidOnce
namespace Go.Proofs.YtdlfkjpnbgobhaaDoor
open Go
set_option maxRecDepth 100000
theorem seatTie1 : Tryd.prog.laidByTextLater [("ambler/api.ErrRange", Rows.laid_ambler_api_ErrRange), ("ambler/api.ErrFull", Rows.laid_ambler_api_ErrFull), ("ambler/api.ErrForm", Rows.laid_ambler_api_ErrForm), ("ambler/api.ErrNone", Rows.laid_ambler_api_ErrNone), ("ambler/api.ErrState", Rows.laid_ambler_api_ErrState), ("ambler/api.ErrBadIter", Rows.laid_ambler_api_ErrBadIter), ("ambler/api.ErrTooMany", Rows.laid_ambler_api_ErrTooMany), ("ambler/api.ErrHash", Rows.laid_ambler_api_ErrHash), ("ambler/api.ErrLong", Rows.laid_ambler_api_ErrLong), ("ambler/api.ErrBroken", Rows.laid_ambler_api_ErrBroken), ("ambler/api.ErrLimit", Rows.laid_ambler_api_ErrLimit), ("ambler/api.ErrEmpty", Rows.laid_ambler_api_ErrEmpty), ("ambler/api.ErrNumber", Rows.laid_ambler_api_ErrNumber), ("ambler/api.ErrKind", Rows.laid_ambler_api_ErrKind), ("ambler/api.ErrName", Rows.laid_ambler_api_ErrName), ("ambler/api.ErrDup", Rows.laid_ambler_api_ErrDup), ("ambler/mix.words", Rows.laid_ambler_mix_words), ("ambler/choose.words", Rows.laid_ambler_choose_words)] [.sentinel, .sentinel, .sentinel, .sentinel, .sentinel, .sentinel, .sentinel, .sentinel, .sentinel, .sentinel, .sentinel, .sentinel, .sentinel, .sentinel, .sentinel, .sentinel, .widerDeep, .data] true :=
  Program.laidByTextLater_by_one 323 8 7 (by kernel_rfl) (by kernel_rfl) (by kernel_rfl) (by kernel_rfl) (by kernel_rfl) (by kernel_rfl) (fun _ _ => by kernel_rfl)
theorem noOwnUnsafe : Tryd.pinned.checked.prog.headLifts.contains "ownunsafe" = false := by kernel_rfl
theorem tie : Tryd.prog.laidByTextLater [("ambler/api.ErrRange", Rows.laid_ambler_api_ErrRange), ("ambler/api.ErrForm", Rows.laid_ambler_api_ErrForm)] [.sentinel, .sentinel] true :=
  Program.laidByTextLater.sub seatTie1 ["ambler/api.ErrRange", "ambler/api.ErrForm"] (by kernel_rfl) (by kernel_rfl)
theorem ctrlTells_row_tie : Rows.ctrlTellsRow.laidByTextAt .later Tryd.pinned [.sentinel, .sentinel] true :=
  OpenClaim.laidByTextAt_later rfl rfl tie noOwnUnsafe
theorem ctrlApart_row_tie : Rows.ctrlApartRow.laidByTextAt .later Tryd.pinned [.sentinel, .sentinel] true :=
  OpenClaim.laidByTextAt_later rfl rfl tie noOwnUnsafe
theorem tie2 : Tryd.prog.laidByTextLater [("ambler/api.ErrRange", Rows.laid_ambler_api_ErrRange), ("ambler/api.ErrKind", Rows.laid_ambler_api_ErrKind), ("ambler/mix.words", Rows.laid_ambler_mix_words)] [.sentinel, .sentinel, .widerDeep] true :=
  Program.laidByTextLater.sub seatTie1 ["ambler/api.ErrRange", "ambler/api.ErrKind", "ambler/mix.words"] (by kernel_rfl) (by kernel_rfl)
theorem mixSums_row_tie : Rows.mixSumsRow.laidByTextAt .later Tryd.pinned [.sentinel, .sentinel, .widerDeep] true :=
  OpenClaim.laidByTextAt_later rfl rfl tie2 noOwnUnsafe
theorem tie3 : Tryd.prog.laidByTextLater [("ambler/api.ErrRange", Rows.laid_ambler_api_ErrRange), ("ambler/api.ErrFull", Rows.laid_ambler_api_ErrFull), ("ambler/api.ErrForm", Rows.laid_ambler_api_ErrForm), ("ambler/api.ErrNone", Rows.laid_ambler_api_ErrNone), ("ambler/api.ErrState", Rows.laid_ambler_api_ErrState), ("ambler/api.ErrBadIter", Rows.laid_ambler_api_ErrBadIter), ("ambler/api.ErrTooMany", Rows.laid_ambler_api_ErrTooMany), ("ambler/api.ErrHash", Rows.laid_ambler_api_ErrHash), ("ambler/api.ErrLong", Rows.laid_ambler_api_ErrLong), ("ambler/api.ErrBroken", Rows.laid_ambler_api_ErrBroken), ("ambler/api.ErrLimit", Rows.laid_ambler_api_ErrLimit), ("ambler/api.ErrEmpty", Rows.laid_ambler_api_ErrEmpty), ("ambler/api.ErrNumber", Rows.laid_ambler_api_ErrNumber), ("ambler/api.ErrKind", Rows.laid_ambler_api_ErrKind), ("ambler/api.ErrName", Rows.laid_ambler_api_ErrName), ("ambler/api.ErrDup", Rows.laid_ambler_api_ErrDup), ("ambler/choose.words", Rows.laid_ambler_choose_words)] [.sentinel, .sentinel, .sentinel, .sentinel, .sentinel, .sentinel, .sentinel, .sentinel, .sentinel, .sentinel, .sentinel, .sentinel, .sentinel, .sentinel, .sentinel, .sentinel, .data] true :=
  Program.laidByTextLater.sub seatTie1 ["ambler/api.ErrRange", "ambler/api.ErrFull", "ambler/api.ErrForm", "ambler/api.ErrNone", "ambler/api.ErrState", "ambler/api.ErrBadIter", "ambler/api.ErrTooMany", "ambler/api.ErrHash", "ambler/api.ErrLong", "ambler/api.ErrBroken", "ambler/api.ErrLimit", "ambler/api.ErrEmpty", "ambler/api.ErrNumber", "ambler/api.ErrKind", "ambler/api.ErrName", "ambler/api.ErrDup", "ambler/choose.words"] (by kernel_rfl) (by kernel_rfl)
theorem chooseTells_row_tie : Rows.chooseTellsRow.laidByTextAt .later Tryd.pinned [.sentinel, .sentinel, .sentinel, .sentinel, .sentinel, .sentinel, .sentinel, .sentinel, .sentinel, .sentinel, .sentinel, .sentinel, .sentinel, .sentinel, .sentinel, .sentinel, .data] true :=
  OpenClaim.laidByTextAt_later rfl rfl tie3 noOwnUnsafe
theorem tie4 : Tryd.prog.laidByTextLater [("ambler/api.ErrRange", Rows.laid_ambler_api_ErrRange), ("ambler/api.ErrFull", Rows.laid_ambler_api_ErrFull), ("ambler/api.ErrForm", Rows.laid_ambler_api_ErrForm), ("ambler/api.ErrNone", Rows.laid_ambler_api_ErrNone), ("ambler/api.ErrState", Rows.laid_ambler_api_ErrState), ("ambler/api.ErrBadIter", Rows.laid_ambler_api_ErrBadIter), ("ambler/api.ErrTooMany", Rows.laid_ambler_api_ErrTooMany), ("ambler/api.ErrHash", Rows.laid_ambler_api_ErrHash), ("ambler/api.ErrLong", Rows.laid_ambler_api_ErrLong), ("ambler/api.ErrBroken", Rows.laid_ambler_api_ErrBroken), ("ambler/api.ErrLimit", Rows.laid_ambler_api_ErrLimit), ("ambler/api.ErrEmpty", Rows.laid_ambler_api_ErrEmpty), ("ambler/api.ErrNumber", Rows.laid_ambler_api_ErrNumber), ("ambler/api.ErrKind", Rows.laid_ambler_api_ErrKind), ("ambler/api.ErrName", Rows.laid_ambler_api_ErrName), ("ambler/api.ErrDup", Rows.laid_ambler_api_ErrDup), ("ambler/mix.words", Rows.laid_ambler_mix_words)] [.sentinel, .sentinel, .sentinel, .sentinel, .sentinel, .sentinel, .sentinel, .sentinel, .sentinel, .sentinel, .sentinel, .sentinel, .sentinel, .sentinel, .sentinel, .sentinel, .widerDeep] true :=
  Program.laidByTextLater.sub seatTie1 ["ambler/api.ErrRange", "ambler/api.ErrFull", "ambler/api.ErrForm", "ambler/api.ErrNone", "ambler/api.ErrState", "ambler/api.ErrBadIter", "ambler/api.ErrTooMany", "ambler/api.ErrHash", "ambler/api.ErrLong", "ambler/api.ErrBroken", "ambler/api.ErrLimit", "ambler/api.ErrEmpty", "ambler/api.ErrNumber", "ambler/api.ErrKind", "ambler/api.ErrName", "ambler/api.ErrDup", "ambler/mix.words"] (by kernel_rfl) (by kernel_rfl)
theorem mixTells_row_tie : Rows.mixTellsRow.laidByTextAt .later Tryd.pinned [.sentinel, .sentinel, .sentinel, .sentinel, .sentinel, .sentinel, .sentinel, .sentinel, .sentinel, .sentinel, .sentinel, .sentinel, .sentinel, .sentinel, .sentinel, .sentinel, .widerDeep] true :=
  OpenClaim.laidByTextAt_later rfl rfl tie4 noOwnUnsafe
theorem mixSpreads_row_tie : Rows.mixSpreadsRow.laidByTextAt .later Tryd.pinned [.sentinel, .sentinel, .sentinel, .sentinel, .sentinel, .sentinel, .sentinel, .sentinel, .sentinel, .sentinel, .sentinel, .sentinel, .sentinel, .sentinel, .sentinel, .sentinel, .widerDeep] true :=
  OpenClaim.laidByTextAt_later rfl rfl tie4 noOwnUnsafe
theorem tie5 : Tryd.prog.laidByTextLater [("ambler/api.ErrRange", Rows.laid_ambler_api_ErrRange), ("ambler/api.ErrFull", Rows.laid_ambler_api_ErrFull), ("ambler/api.ErrForm", Rows.laid_ambler_api_ErrForm), ("ambler/api.ErrNone", Rows.laid_ambler_api_ErrNone), ("ambler/api.ErrState", Rows.laid_ambler_api_ErrState), ("ambler/api.ErrBadIter", Rows.laid_ambler_api_ErrBadIter), ("ambler/api.ErrTooMany", Rows.laid_ambler_api_ErrTooMany), ("ambler/api.ErrHash", Rows.laid_ambler_api_ErrHash), ("ambler/api.ErrLong", Rows.laid_ambler_api_ErrLong), ("ambler/api.ErrBroken", Rows.laid_ambler_api_ErrBroken), ("ambler/api.ErrLimit", Rows.laid_ambler_api_ErrLimit), ("ambler/api.ErrEmpty", Rows.laid_ambler_api_ErrEmpty), ("ambler/api.ErrNumber", Rows.laid_ambler_api_ErrNumber), ("ambler/api.ErrKind", Rows.laid_ambler_api_ErrKind), ("ambler/api.ErrName", Rows.laid_ambler_api_ErrName), ("ambler/api.ErrDup", Rows.laid_ambler_api_ErrDup)] [.sentinel, .sentinel, .sentinel, .sentinel, .sentinel, .sentinel, .sentinel, .sentinel, .sentinel, .sentinel, .sentinel, .sentinel, .sentinel, .sentinel, .sentinel, .sentinel] true :=
  Program.laidByTextLater.sub seatTie1 ["ambler/api.ErrRange", "ambler/api.ErrFull", "ambler/api.ErrForm", "ambler/api.ErrNone", "ambler/api.ErrState", "ambler/api.ErrBadIter", "ambler/api.ErrTooMany", "ambler/api.ErrHash", "ambler/api.ErrLong", "ambler/api.ErrBroken", "ambler/api.ErrLimit", "ambler/api.ErrEmpty", "ambler/api.ErrNumber", "ambler/api.ErrKind", "ambler/api.ErrName", "ambler/api.ErrDup"] (by kernel_rfl) (by kernel_rfl)
theorem mixBack_row_tie : Rows.mixBackRow.laidByTextAt .later Tryd.pinned [.sentinel, .sentinel, .sentinel, .sentinel, .sentinel, .sentinel, .sentinel, .sentinel, .sentinel, .sentinel, .sentinel, .sentinel, .sentinel, .sentinel, .sentinel, .sentinel] true :=
  OpenClaim.laidByTextAt_later rfl rfl tie5 noOwnUnsafe
theorem ctrlSets_row_tie : Rows.ctrlSetsRow.laidByTextAt .later Tryd.pinned [.sentinel, .sentinel, .sentinel, .sentinel, .sentinel, .sentinel, .sentinel, .sentinel, .sentinel, .sentinel, .sentinel, .sentinel, .sentinel, .sentinel, .sentinel, .sentinel] true :=
  OpenClaim.laidByTextAt_later rfl rfl tie5 noOwnUnsafe
theorem ctrlPaths_row_tie : Rows.ctrlPathsRow.laidByTextAt .later Tryd.pinned [.sentinel, .sentinel, .sentinel, .sentinel, .sentinel, .sentinel, .sentinel, .sentinel, .sentinel, .sentinel, .sentinel, .sentinel, .sentinel, .sentinel, .sentinel, .sentinel] true :=
  OpenClaim.laidByTextAt_later rfl rfl tie5 noOwnUnsafe
theorem dirActs_row_tie : Rows.dirActsRow.laidByTextAt .later Tryd.pinned [.sentinel, .sentinel, .sentinel, .sentinel, .sentinel, .sentinel, .sentinel, .sentinel, .sentinel, .sentinel, .sentinel, .sentinel, .sentinel, .sentinel, .sentinel, .sentinel] true :=
  OpenClaim.laidByTextAt_later rfl rfl tie5 noOwnUnsafe
theorem copyistActs_row_tie : Rows.copyistActsRow.laidByTextAt .later Tryd.pinned [.sentinel, .sentinel, .sentinel, .sentinel, .sentinel, .sentinel, .sentinel, .sentinel, .sentinel, .sentinel, .sentinel, .sentinel, .sentinel, .sentinel, .sentinel, .sentinel] true :=
  OpenClaim.laidByTextAt_later rfl rfl tie5 noOwnUnsafe
theorem tie6 : Tryd.prog.laidByTextLater [("ambler/api.ErrRange", Rows.laid_ambler_api_ErrRange), ("ambler/api.ErrNone", Rows.laid_ambler_api_ErrNone), ("ambler/api.ErrState", Rows.laid_ambler_api_ErrState), ("ambler/api.ErrBroken", Rows.laid_ambler_api_ErrBroken), ("ambler/api.ErrLimit", Rows.laid_ambler_api_ErrLimit)] [.sentinel, .sentinel, .sentinel, .sentinel, .sentinel] true :=
  Program.laidByTextLater.sub seatTie1 ["ambler/api.ErrRange", "ambler/api.ErrNone", "ambler/api.ErrState", "ambler/api.ErrBroken", "ambler/api.ErrLimit"] (by kernel_rfl) (by kernel_rfl)
theorem copyistKeeps_row_tie : Rows.copyistKeepsRow.laidByTextAt .later Tryd.pinned [.sentinel, .sentinel, .sentinel, .sentinel, .sentinel] true :=
  OpenClaim.laidByTextAt_later rfl rfl tie6 noOwnUnsafe
theorem ctrlTellsUpto_row_tie : Rows.ctrlTellsUptoRow.laidByTextAt .later Tryd.pinned [.sentinel, .sentinel] true :=
  OpenClaim.laidByTextAt_later rfl rfl tie noOwnUnsafe
theorem mixSumsUpto_row_tie : Rows.mixSumsUptoRow.laidByTextAt .later Tryd.pinned [.sentinel, .sentinel, .widerDeep] true :=
  OpenClaim.laidByTextAt_later rfl rfl tie2 noOwnUnsafe
theorem chooseTellsUpto_row_tie : Rows.chooseTellsUptoRow.laidByTextAt .later Tryd.pinned [.sentinel, .sentinel, .sentinel, .sentinel, .sentinel, .sentinel, .sentinel, .sentinel, .sentinel, .sentinel, .sentinel, .sentinel, .sentinel, .sentinel, .sentinel, .sentinel, .data] true :=
  OpenClaim.laidByTextAt_later rfl rfl tie3 noOwnUnsafe
theorem mixTellsUpto_row_tie : Rows.mixTellsUptoRow.laidByTextAt .later Tryd.pinned [.sentinel, .sentinel, .sentinel, .sentinel, .sentinel, .sentinel, .sentinel, .sentinel, .sentinel, .sentinel, .sentinel, .sentinel, .sentinel, .sentinel, .sentinel, .sentinel, .widerDeep] true :=
  OpenClaim.laidByTextAt_later rfl rfl tie4 noOwnUnsafe
theorem mixBackUpto_row_tie : Rows.mixBackUptoRow.laidByTextAt .later Tryd.pinned [.sentinel, .sentinel, .sentinel, .sentinel, .sentinel, .sentinel, .sentinel, .sentinel, .sentinel, .sentinel, .sentinel, .sentinel, .sentinel, .sentinel, .sentinel, .sentinel] true :=
  OpenClaim.laidByTextAt_later rfl rfl tie5 noOwnUnsafe
theorem ctrlApartUpto_row_tie : Rows.ctrlApartUptoRow.laidByTextAt .later Tryd.pinned [.sentinel, .sentinel] true :=
  OpenClaim.laidByTextAt_later rfl rfl tie noOwnUnsafe
theorem ctrlSetsUpto_row_tie : Rows.ctrlSetsUptoRow.laidByTextAt .later Tryd.pinned [.sentinel, .sentinel, .sentinel, .sentinel, .sentinel, .sentinel, .sentinel, .sentinel, .sentinel, .sentinel, .sentinel, .sentinel, .sentinel, .sentinel, .sentinel, .sentinel] true :=
  OpenClaim.laidByTextAt_later rfl rfl tie5 noOwnUnsafe
theorem ctrlPathsUpto_row_tie : Rows.ctrlPathsUptoRow.laidByTextAt .later Tryd.pinned [.sentinel, .sentinel, .sentinel, .sentinel, .sentinel, .sentinel, .sentinel, .sentinel, .sentinel, .sentinel, .sentinel, .sentinel, .sentinel, .sentinel, .sentinel, .sentinel] true :=
  OpenClaim.laidByTextAt_later rfl rfl tie5 noOwnUnsafe
theorem mixSpreadsUpto_row_tie : Rows.mixSpreadsUptoRow.laidByTextAt .later Tryd.pinned [.sentinel, .sentinel, .sentinel, .sentinel, .sentinel, .sentinel, .sentinel, .sentinel, .sentinel, .sentinel, .sentinel, .sentinel, .sentinel, .sentinel, .sentinel, .sentinel, .widerDeep] true :=
  OpenClaim.laidByTextAt_later rfl rfl tie4 noOwnUnsafe
theorem dirActsUpto_row_tie : Rows.dirActsUptoRow.laidByTextAt .later Tryd.pinned [.sentinel, .sentinel, .sentinel, .sentinel, .sentinel, .sentinel, .sentinel, .sentinel, .sentinel, .sentinel, .sentinel, .sentinel, .sentinel, .sentinel, .sentinel, .sentinel] true :=
  OpenClaim.laidByTextAt_later rfl rfl tie5 noOwnUnsafe
theorem copyistKeepsUpto_row_tie : Rows.copyistKeepsUptoRow.laidByTextAt .later Tryd.pinned [.sentinel, .sentinel, .sentinel, .sentinel, .sentinel] true :=
  OpenClaim.laidByTextAt_later rfl rfl tie6 noOwnUnsafe
theorem copyistActsUpto_row_tie : Rows.copyistActsUptoRow.laidByTextAt .later Tryd.pinned [.sentinel, .sentinel, .sentinel, .sentinel, .sentinel, .sentinel, .sentinel, .sentinel, .sentinel, .sentinel, .sentinel, .sentinel, .sentinel, .sentinel, .sentinel, .sentinel] true :=
  OpenClaim.laidByTextAt_later rfl rfl tie5 noOwnUnsafe
end Go.Proofs.YtdlfkjpnbgobhaaDoor
