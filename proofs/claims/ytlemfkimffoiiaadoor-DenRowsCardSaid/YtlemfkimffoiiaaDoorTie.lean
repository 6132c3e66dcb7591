/-
  DERIVED. GIVEN WITH THE SEED: THE PROGRAM's TIES (one call each: nine closed facts by the kernel) AND EACH ROW's TIE, after the 31st guide's Derived/Test/Toyas{Tie, Card}.lean. No idea stands in it: it is a product of the set-up. Laid BY PROGRAM, IN A SANDBOX (cutbox-door.mjs). By AI agents, Wed Nov 11 2026. No macro, syntax, notation, axiom, sorry.
-/
import Derived.Test.YtlemfkimffoiiaaDoorRows
import Derived.LaidByTextLater
import Derived.SevenTiedAt
import Derived.LaidSub
import Derived.LaidOnce
namespace Go.Proofs.YtlemfkimffoiiaaDoor
open Go
set_option maxRecDepth 100000
theorem seatTie1 : Tryd.prog.laidByTextLater [("errors.errorType", Rows.laid_errors_errorType), ("lodge/api.ErrShape", Rows.laid_lodge_api_ErrShape), ("lodge/api.ErrRange", Rows.laid_lodge_api_ErrRange), ("lodge/api.ErrKind", Rows.laid_lodge_api_ErrKind), ("lodge/api.ErrMany", Rows.laid_lodge_api_ErrMany), ("lodge/api.ErrNone", Rows.laid_lodge_api_ErrNone), ("lodge/api.ErrCycle", Rows.laid_lodge_api_ErrCycle)] [.handle, .sentinel, .sentinel, .sentinel, .sentinel, .sentinel, .sentinel] true :=
  Program.laidByTextLater_by_one 130 8 2 (by kernel_rfl) (by kernel_rfl) (by kernel_rfl) (by kernel_rfl) (by kernel_rfl) (by kernel_rfl) (fun _ _ => by kernel_rfl)
theorem noOwnUnsafe : Tryd.pinned.checked.prog.headLifts.contains "ownunsafe" = false := by kernel_rfl
theorem tie : Tryd.prog.laidByTextLater [("errors.errorType", Rows.laid_errors_errorType), ("lodge/api.ErrShape", Rows.laid_lodge_api_ErrShape), ("lodge/api.ErrRange", Rows.laid_lodge_api_ErrRange), ("lodge/api.ErrKind", Rows.laid_lodge_api_ErrKind), ("lodge/api.ErrMany", Rows.laid_lodge_api_ErrMany), ("lodge/api.ErrNone", Rows.laid_lodge_api_ErrNone), ("lodge/api.ErrCycle", Rows.laid_lodge_api_ErrCycle)] [.handle, .sentinel, .sentinel, .sentinel, .sentinel, .sentinel, .sentinel] true :=
  Program.laidByTextLater.sub seatTie1 ["errors.errorType", "lodge/api.ErrShape", "lodge/api.ErrRange", "lodge/api.ErrKind", "lodge/api.ErrMany", "lodge/api.ErrNone", "lodge/api.ErrCycle"] (by kernel_rfl) (by kernel_rfl)
theorem denRows_row_tie : Rows.denRowsRow.laidByTextAt .later Tryd.pinned [.handle, .sentinel, .sentinel, .sentinel, .sentinel, .sentinel, .sentinel] true :=
  OpenClaim.laidByTextAt_later rfl rfl tie noOwnUnsafe
theorem denRowsUpto_row_tie : Rows.denRowsUptoRow.laidByTextAt .later Tryd.pinned [.handle, .sentinel, .sentinel, .sentinel, .sentinel, .sentinel, .sentinel] true :=
  OpenClaim.laidByTextAt_later rfl rfl tie noOwnUnsafe
end Go.Proofs.YtlemfkimffoiiaaDoor
