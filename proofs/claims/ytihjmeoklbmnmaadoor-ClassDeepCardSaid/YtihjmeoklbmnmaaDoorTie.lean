/-
  DERIVED. GIVEN WITH THE SEED: THE PROGRAM's TIES (one call each: nine closed facts by the kernel) AND EACH ROW's TIE, after the 31st guide's Derived/Test/Toyas{Tie, Card}.lean. No idea stands in it: it is a product of the set-up. Laid BY PROGRAM, IN A SANDBOX (cutbox-door.mjs). By AI agents, Wed Nov 11 2026. No macro, syntax, notation, axiom, sorry.
-/
import Derived.Test.YtihjmeoklbmnmaaDoorRows
import Derived.LaidByTextLater
import Derived.SevenTiedAt
import Derived.LaidSub
import Derived.LaidOnce
namespace Go.Proofs.YtihjmeoklbmnmaaDoor
open Go
set_option maxRecDepth 100000
theorem seatTie1 : Tryd.prog.laidByTextLater [("errors.errorType", Rows.laid_errors_errorType), ("bolter/fault.ErrLong", Rows.laid_bolter_fault_ErrLong), ("bolter/fault.ErrSyntax", Rows.laid_bolter_fault_ErrSyntax), ("bolter/fault.ErrDeep", Rows.laid_bolter_fault_ErrDeep), ("bolter/fault.ErrMany", Rows.laid_bolter_fault_ErrMany), ("bolter/fault.ErrName", Rows.laid_bolter_fault_ErrName), ("bolter/fault.ErrDefCycle", Rows.laid_bolter_fault_ErrDefCycle), ("bolter/fault.ErrRepeat", Rows.laid_bolter_fault_ErrRepeat), ("bolter/fault.ErrTooManyPositions", Rows.laid_bolter_fault_ErrTooManyPositions), ("bolter/fault.ErrTrail", Rows.laid_bolter_fault_ErrTrail), ("bolter/fault.ErrTooManyStates", Rows.laid_bolter_fault_ErrTooManyStates), ("bolter/fault.ErrImage", Rows.laid_bolter_fault_ErrImage), ("bolter/fault.ErrModeStack", Rows.laid_bolter_fault_ErrModeStack), ("bolter/fault.ErrClosed", Rows.laid_bolter_fault_ErrClosed), ("bolter/fault.ErrArg", Rows.laid_bolter_fault_ErrArg), ("bolter/fault.ErrCommand", Rows.laid_bolter_fault_ErrCommand), ("bolter/fault.ErrHandle", Rows.laid_bolter_fault_ErrHandle)] [.handle, .sentinel, .sentinel, .sentinel, .sentinel, .sentinel, .sentinel, .sentinel, .sentinel, .sentinel, .sentinel, .sentinel, .sentinel, .sentinel, .sentinel, .sentinel, .sentinel] true :=
  Program.laidByTextLater_by_one 320 8 2 (by kernel_rfl) (by kernel_rfl) (by kernel_rfl) (by kernel_rfl) (by kernel_rfl) (by kernel_rfl) (fun _ _ => by kernel_rfl)
theorem noOwnUnsafe : Tryd.pinned.checked.prog.headLifts.contains "ownunsafe" = false := by kernel_rfl
theorem tie : Tryd.prog.laidByTextLater [("bolter/fault.ErrSyntax", Rows.laid_bolter_fault_ErrSyntax), ("bolter/fault.ErrDeep", Rows.laid_bolter_fault_ErrDeep)] [.sentinel, .sentinel] true :=
  Program.laidByTextLater.sub seatTie1 ["bolter/fault.ErrSyntax", "bolter/fault.ErrDeep"] (by kernel_rfl) (by kernel_rfl)
theorem classWrites_row_tie : Rows.classWritesRow.laidByTextAt .later Tryd.pinned [.sentinel, .sentinel] true :=
  OpenClaim.laidByTextAt_later rfl rfl tie noOwnUnsafe
theorem classAlgebra_row_tie : Rows.classAlgebraRow.laidByTextAt .later Tryd.pinned [.sentinel, .sentinel] true :=
  OpenClaim.laidByTextAt_later rfl rfl tie noOwnUnsafe
theorem classBack_row_tie : Rows.classBackRow.laidByTextAt .later Tryd.pinned [.sentinel, .sentinel] true :=
  OpenClaim.laidByTextAt_later rfl rfl tie noOwnUnsafe
theorem classEscapes_row_tie : Rows.classEscapesRow.laidByTextAt .later Tryd.pinned [.sentinel, .sentinel] true :=
  OpenClaim.laidByTextAt_later rfl rfl tie noOwnUnsafe
theorem tie2 : Tryd.prog.laidByTextLater [("errors.errorType", Rows.laid_errors_errorType), ("bolter/fault.ErrLong", Rows.laid_bolter_fault_ErrLong), ("bolter/fault.ErrSyntax", Rows.laid_bolter_fault_ErrSyntax), ("bolter/fault.ErrDeep", Rows.laid_bolter_fault_ErrDeep), ("bolter/fault.ErrMany", Rows.laid_bolter_fault_ErrMany), ("bolter/fault.ErrName", Rows.laid_bolter_fault_ErrName), ("bolter/fault.ErrDefCycle", Rows.laid_bolter_fault_ErrDefCycle), ("bolter/fault.ErrRepeat", Rows.laid_bolter_fault_ErrRepeat), ("bolter/fault.ErrTooManyPositions", Rows.laid_bolter_fault_ErrTooManyPositions), ("bolter/fault.ErrTrail", Rows.laid_bolter_fault_ErrTrail), ("bolter/fault.ErrTooManyStates", Rows.laid_bolter_fault_ErrTooManyStates), ("bolter/fault.ErrImage", Rows.laid_bolter_fault_ErrImage), ("bolter/fault.ErrModeStack", Rows.laid_bolter_fault_ErrModeStack), ("bolter/fault.ErrClosed", Rows.laid_bolter_fault_ErrClosed), ("bolter/fault.ErrArg", Rows.laid_bolter_fault_ErrArg), ("bolter/fault.ErrCommand", Rows.laid_bolter_fault_ErrCommand), ("bolter/fault.ErrHandle", Rows.laid_bolter_fault_ErrHandle)] [.handle, .sentinel, .sentinel, .sentinel, .sentinel, .sentinel, .sentinel, .sentinel, .sentinel, .sentinel, .sentinel, .sentinel, .sentinel, .sentinel, .sentinel, .sentinel, .sentinel] true :=
  Program.laidByTextLater.sub seatTie1 ["errors.errorType", "bolter/fault.ErrLong", "bolter/fault.ErrSyntax", "bolter/fault.ErrDeep", "bolter/fault.ErrMany", "bolter/fault.ErrName", "bolter/fault.ErrDefCycle", "bolter/fault.ErrRepeat", "bolter/fault.ErrTooManyPositions", "bolter/fault.ErrTrail", "bolter/fault.ErrTooManyStates", "bolter/fault.ErrImage", "bolter/fault.ErrModeStack", "bolter/fault.ErrClosed", "bolter/fault.ErrArg", "bolter/fault.ErrCommand", "bolter/fault.ErrHandle"] (by kernel_rfl) (by kernel_rfl)
theorem classDeep_row_tie : Rows.classDeepRow.laidByTextAt .later Tryd.pinned [.handle, .sentinel, .sentinel, .sentinel, .sentinel, .sentinel, .sentinel, .sentinel, .sentinel, .sentinel, .sentinel, .sentinel, .sentinel, .sentinel, .sentinel, .sentinel, .sentinel] true :=
  OpenClaim.laidByTextAt_later rfl rfl tie2 noOwnUnsafe
theorem classWritesUpto_row_tie : Rows.classWritesUptoRow.laidByTextAt .later Tryd.pinned [.sentinel, .sentinel] true :=
  OpenClaim.laidByTextAt_later rfl rfl tie noOwnUnsafe
theorem classAlgebraUpto_row_tie : Rows.classAlgebraUptoRow.laidByTextAt .later Tryd.pinned [.sentinel, .sentinel] true :=
  OpenClaim.laidByTextAt_later rfl rfl tie noOwnUnsafe
theorem classBackUpto_row_tie : Rows.classBackUptoRow.laidByTextAt .later Tryd.pinned [.sentinel, .sentinel] true :=
  OpenClaim.laidByTextAt_later rfl rfl tie noOwnUnsafe
theorem classEscapesUpto_row_tie : Rows.classEscapesUptoRow.laidByTextAt .later Tryd.pinned [.sentinel, .sentinel] true :=
  OpenClaim.laidByTextAt_later rfl rfl tie noOwnUnsafe
theorem classDeepUpto_row_tie : Rows.classDeepUptoRow.laidByTextAt .later Tryd.pinned [.handle, .sentinel, .sentinel, .sentinel, .sentinel, .sentinel, .sentinel, .sentinel, .sentinel, .sentinel, .sentinel, .sentinel, .sentinel, .sentinel, .sentinel, .sentinel, .sentinel] true :=
  OpenClaim.laidByTextAt_later rfl rfl tie2 noOwnUnsafe
end Go.Proofs.YtihjmeoklbmnmaaDoor
