/-
  DERIVED. GIVEN WITH THE SEED: THE PROGRAM's TIES (one call each: nine closed facts by the kernel) AND EACH ROW's TIE, after the 31st guide's Derived/Test/Toyas{Tie, Card}.lean. No idea stands in it: it is a product of the set-up. Laid BY PROGRAM, IN A SANDBOX (cutbox-door.mjs). By AI agents, Wed Nov 11 2026. No macro, syntax, notation, axiom, sorry.
-/
import Derived.Test.YtkkopdmemjncdaaGreatDoorRows
import Derived.LaidByTextLater
import Derived.SevenTiedAt
import Derived.LaidSub
import Derived.LaidOnce
namespace Go.Proofs.YtkkopdmemjncdaaGreatDoor
open Go
set_option maxRecDepth 100000
theorem seatTie1 : Tryz.prog.laidByTextLater [("errors.errorType", Rows.laid_errors_errorType), ("bolter/fault.ErrLong", Rows.laid_bolter_fault_ErrLong), ("bolter/fault.ErrSyntax", Rows.laid_bolter_fault_ErrSyntax), ("bolter/fault.ErrDeep", Rows.laid_bolter_fault_ErrDeep), ("bolter/fault.ErrMany", Rows.laid_bolter_fault_ErrMany), ("bolter/fault.ErrName", Rows.laid_bolter_fault_ErrName), ("bolter/fault.ErrDefCycle", Rows.laid_bolter_fault_ErrDefCycle), ("bolter/fault.ErrRepeat", Rows.laid_bolter_fault_ErrRepeat), ("bolter/fault.ErrTooManyPositions", Rows.laid_bolter_fault_ErrTooManyPositions), ("bolter/fault.ErrTrail", Rows.laid_bolter_fault_ErrTrail), ("bolter/fault.ErrTooManyStates", Rows.laid_bolter_fault_ErrTooManyStates), ("bolter/fault.ErrImage", Rows.laid_bolter_fault_ErrImage), ("bolter/fault.ErrModeStack", Rows.laid_bolter_fault_ErrModeStack), ("bolter/fault.ErrClosed", Rows.laid_bolter_fault_ErrClosed), ("bolter/fault.ErrArg", Rows.laid_bolter_fault_ErrArg), ("bolter/fault.ErrCommand", Rows.laid_bolter_fault_ErrCommand), ("bolter/fault.ErrHandle", Rows.laid_bolter_fault_ErrHandle)] [.handle, .sentinel, .sentinel, .sentinel, .sentinel, .sentinel, .sentinel, .sentinel, .sentinel, .sentinel, .sentinel, .sentinel, .sentinel, .sentinel, .sentinel, .sentinel, .sentinel] true :=
  Program.laidByTextLater_by_one 320 8 2 (by kernel_rfl) (by kernel_rfl) (by kernel_rfl) (by kernel_rfl) (by kernel_rfl) (by kernel_rfl) (fun _ _ => by kernel_rfl)
theorem noOwnUnsafe : Tryz.pinned.checked.prog.headLifts.contains "ownunsafe" = false := by kernel_rfl
theorem tie : Tryz.prog.laidByTextLater [("errors.errorType", Rows.laid_errors_errorType), ("bolter/fault.ErrLong", Rows.laid_bolter_fault_ErrLong), ("bolter/fault.ErrSyntax", Rows.laid_bolter_fault_ErrSyntax), ("bolter/fault.ErrDeep", Rows.laid_bolter_fault_ErrDeep), ("bolter/fault.ErrMany", Rows.laid_bolter_fault_ErrMany), ("bolter/fault.ErrName", Rows.laid_bolter_fault_ErrName), ("bolter/fault.ErrDefCycle", Rows.laid_bolter_fault_ErrDefCycle), ("bolter/fault.ErrRepeat", Rows.laid_bolter_fault_ErrRepeat), ("bolter/fault.ErrTooManyPositions", Rows.laid_bolter_fault_ErrTooManyPositions), ("bolter/fault.ErrTrail", Rows.laid_bolter_fault_ErrTrail), ("bolter/fault.ErrTooManyStates", Rows.laid_bolter_fault_ErrTooManyStates), ("bolter/fault.ErrImage", Rows.laid_bolter_fault_ErrImage), ("bolter/fault.ErrModeStack", Rows.laid_bolter_fault_ErrModeStack), ("bolter/fault.ErrClosed", Rows.laid_bolter_fault_ErrClosed), ("bolter/fault.ErrArg", Rows.laid_bolter_fault_ErrArg), ("bolter/fault.ErrCommand", Rows.laid_bolter_fault_ErrCommand), ("bolter/fault.ErrHandle", Rows.laid_bolter_fault_ErrHandle)] [.handle, .sentinel, .sentinel, .sentinel, .sentinel, .sentinel, .sentinel, .sentinel, .sentinel, .sentinel, .sentinel, .sentinel, .sentinel, .sentinel, .sentinel, .sentinel, .sentinel] true :=
  Program.laidByTextLater.sub seatTie1 ["errors.errorType", "bolter/fault.ErrLong", "bolter/fault.ErrSyntax", "bolter/fault.ErrDeep", "bolter/fault.ErrMany", "bolter/fault.ErrName", "bolter/fault.ErrDefCycle", "bolter/fault.ErrRepeat", "bolter/fault.ErrTooManyPositions", "bolter/fault.ErrTrail", "bolter/fault.ErrTooManyStates", "bolter/fault.ErrImage", "bolter/fault.ErrModeStack", "bolter/fault.ErrClosed", "bolter/fault.ErrArg", "bolter/fault.ErrCommand", "bolter/fault.ErrHandle"] (by kernel_rfl) (by kernel_rfl)
theorem namesExact_row_tie : Rows.namesExactRow.laidByTextAt .later Tryz.pinned [.handle, .sentinel, .sentinel, .sentinel, .sentinel, .sentinel, .sentinel, .sentinel, .sentinel, .sentinel, .sentinel, .sentinel, .sentinel, .sentinel, .sentinel, .sentinel, .sentinel] true :=
  OpenClaim.laidByTextAt_later rfl rfl tie noOwnUnsafe
theorem namesCycles_row_tie : Rows.namesCyclesRow.laidByTextAt .later Tryz.pinned [.handle, .sentinel, .sentinel, .sentinel, .sentinel, .sentinel, .sentinel, .sentinel, .sentinel, .sentinel, .sentinel, .sentinel, .sentinel, .sentinel, .sentinel, .sentinel, .sentinel] true :=
  OpenClaim.laidByTextAt_later rfl rfl tie noOwnUnsafe
theorem namesRenamed_row_tie : Rows.namesRenamedRow.laidByTextAt .later Tryz.pinned [.handle, .sentinel, .sentinel, .sentinel, .sentinel, .sentinel, .sentinel, .sentinel, .sentinel, .sentinel, .sentinel, .sentinel, .sentinel, .sentinel, .sentinel, .sentinel, .sentinel] true :=
  OpenClaim.laidByTextAt_later rfl rfl tie noOwnUnsafe
theorem namesTold_row_tie : Rows.namesToldRow.laidByTextAt .later Tryz.pinned [.handle, .sentinel, .sentinel, .sentinel, .sentinel, .sentinel, .sentinel, .sentinel, .sentinel, .sentinel, .sentinel, .sentinel, .sentinel, .sentinel, .sentinel, .sentinel, .sentinel] true :=
  OpenClaim.laidByTextAt_later rfl rfl tie noOwnUnsafe
theorem namesOrder_row_tie : Rows.namesOrderRow.laidByTextAt .later Tryz.pinned [.handle, .sentinel, .sentinel, .sentinel, .sentinel, .sentinel, .sentinel, .sentinel, .sentinel, .sentinel, .sentinel, .sentinel, .sentinel, .sentinel, .sentinel, .sentinel, .sentinel] true :=
  OpenClaim.laidByTextAt_later rfl rfl tie noOwnUnsafe
theorem namesActive_row_tie : Rows.namesActiveRow.laidByTextAt .later Tryz.pinned [.handle, .sentinel, .sentinel, .sentinel, .sentinel, .sentinel, .sentinel, .sentinel, .sentinel, .sentinel, .sentinel, .sentinel, .sentinel, .sentinel, .sentinel, .sentinel, .sentinel] true :=
  OpenClaim.laidByTextAt_later rfl rfl tie noOwnUnsafe
theorem namesExactUpto_row_tie : Rows.namesExactUptoRow.laidByTextAt .later Tryz.pinned [.handle, .sentinel, .sentinel, .sentinel, .sentinel, .sentinel, .sentinel, .sentinel, .sentinel, .sentinel, .sentinel, .sentinel, .sentinel, .sentinel, .sentinel, .sentinel, .sentinel] true :=
  OpenClaim.laidByTextAt_later rfl rfl tie noOwnUnsafe
theorem namesCyclesUpto_row_tie : Rows.namesCyclesUptoRow.laidByTextAt .later Tryz.pinned [.handle, .sentinel, .sentinel, .sentinel, .sentinel, .sentinel, .sentinel, .sentinel, .sentinel, .sentinel, .sentinel, .sentinel, .sentinel, .sentinel, .sentinel, .sentinel, .sentinel] true :=
  OpenClaim.laidByTextAt_later rfl rfl tie noOwnUnsafe
theorem namesRenamedUpto_row_tie : Rows.namesRenamedUptoRow.laidByTextAt .later Tryz.pinned [.handle, .sentinel, .sentinel, .sentinel, .sentinel, .sentinel, .sentinel, .sentinel, .sentinel, .sentinel, .sentinel, .sentinel, .sentinel, .sentinel, .sentinel, .sentinel, .sentinel] true :=
  OpenClaim.laidByTextAt_later rfl rfl tie noOwnUnsafe
theorem namesToldUpto_row_tie : Rows.namesToldUptoRow.laidByTextAt .later Tryz.pinned [.handle, .sentinel, .sentinel, .sentinel, .sentinel, .sentinel, .sentinel, .sentinel, .sentinel, .sentinel, .sentinel, .sentinel, .sentinel, .sentinel, .sentinel, .sentinel, .sentinel] true :=
  OpenClaim.laidByTextAt_later rfl rfl tie noOwnUnsafe
theorem namesOrderUpto_row_tie : Rows.namesOrderUptoRow.laidByTextAt .later Tryz.pinned [.handle, .sentinel, .sentinel, .sentinel, .sentinel, .sentinel, .sentinel, .sentinel, .sentinel, .sentinel, .sentinel, .sentinel, .sentinel, .sentinel, .sentinel, .sentinel, .sentinel] true :=
  OpenClaim.laidByTextAt_later rfl rfl tie noOwnUnsafe
theorem namesActiveUpto_row_tie : Rows.namesActiveUptoRow.laidByTextAt .later Tryz.pinned [.handle, .sentinel, .sentinel, .sentinel, .sentinel, .sentinel, .sentinel, .sentinel, .sentinel, .sentinel, .sentinel, .sentinel, .sentinel, .sentinel, .sentinel, .sentinel, .sentinel] true :=
  OpenClaim.laidByTextAt_later rfl rfl tie noOwnUnsafe
end Go.Proofs.YtkkopdmemjncdaaGreatDoor
