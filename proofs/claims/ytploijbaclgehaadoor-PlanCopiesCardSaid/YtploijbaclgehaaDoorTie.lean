/-
  DERIVED. GIVEN WITH THE SEED: THE PROGRAM's TIES (one call each: nine closed facts by the kernel) AND EACH ROW's TIE, after the 31st guide's Derived/Test/Toyas{Tie, Card}.lean. No idea stands in it: it is a product of the set-up. Laid BY PROGRAM, IN A SANDBOX (cutbox-door.mjs). By AI agents, Wed Nov 11 2026. No macro, syntax, notation, axiom, sorry.
-/
import Derived.Test.YtploijbaclgehaaDoorRows
import Derived.LaidByTextLater
import Derived.SevenTiedAt
import Derived.LaidSub
import Derived.LaidOnce
namespace Go.Proofs.YtploijbaclgehaaDoor
open Go
set_option maxRecDepth 100000
theorem seatTie1 : Tryd.prog.laidByTextLater [("errors.errorType", Rows.laid_errors_errorType), ("lodge/api.ErrShape", Rows.laid_lodge_api_ErrShape), ("lodge/api.ErrRange", Rows.laid_lodge_api_ErrRange), ("lodge/api.ErrKind", Rows.laid_lodge_api_ErrKind), ("lodge/api.ErrMany", Rows.laid_lodge_api_ErrMany), ("lodge/api.ErrEnd", Rows.laid_lodge_api_ErrEnd), ("lodge/api.ErrRoom", Rows.laid_lodge_api_ErrRoom), ("lodge/api.ErrNone", Rows.laid_lodge_api_ErrNone), ("lodge/api.ErrAlias", Rows.laid_lodge_api_ErrAlias), ("lodge/api.ErrCost", Rows.laid_lodge_api_ErrCost), ("lodge/api.ErrJump", Rows.laid_lodge_api_ErrJump), ("lodge/api.ErrCycle", Rows.laid_lodge_api_ErrCycle), ("lodge/api.ErrFuel", Rows.laid_lodge_api_ErrFuel), ("lodge/api.ErrFull", Rows.laid_lodge_api_ErrFull), ("lodge/api.ErrQuota", Rows.laid_lodge_api_ErrQuota), ("lodge/api.ErrCap", Rows.laid_lodge_api_ErrCap), ("lodge/api.ErrStale", Rows.laid_lodge_api_ErrStale), ("lodge/api.ErrTag", Rows.laid_lodge_api_ErrTag), ("lodge/api.ErrOld", Rows.laid_lodge_api_ErrOld), ("lodge/api.ErrTenant", Rows.laid_lodge_api_ErrTenant), ("lodge/api.ErrWord", Rows.laid_lodge_api_ErrWord), ("lodge/api.ErrNumber", Rows.laid_lodge_api_ErrNumber)] [.handle, .sentinel, .sentinel, .sentinel, .sentinel, .sentinel, .sentinel, .sentinel, .sentinel, .sentinel, .sentinel, .sentinel, .sentinel, .sentinel, .sentinel, .sentinel, .sentinel, .sentinel, .sentinel, .sentinel, .sentinel, .sentinel] true :=
  Program.laidByTextLater_by_one 415 8 2 (by kernel_rfl) (by kernel_rfl) (by kernel_rfl) (by kernel_rfl) (by kernel_rfl) (by kernel_rfl) (fun _ _ => by kernel_rfl)
theorem noOwnUnsafe : Tryd.pinned.checked.prog.headLifts.contains "ownunsafe" = false := by kernel_rfl
theorem tie : Tryd.prog.laidByTextLater [("lodge/api.ErrShape", Rows.laid_lodge_api_ErrShape), ("lodge/api.ErrRange", Rows.laid_lodge_api_ErrRange), ("lodge/api.ErrMany", Rows.laid_lodge_api_ErrMany)] [.sentinel, .sentinel, .sentinel] true :=
  Program.laidByTextLater.sub seatTie1 ["lodge/api.ErrShape", "lodge/api.ErrRange", "lodge/api.ErrMany"] (by kernel_rfl) (by kernel_rfl)
theorem planCopies_row_tie : Rows.planCopiesRow.laidByTextAt .later Tryd.pinned [.sentinel, .sentinel, .sentinel] true :=
  OpenClaim.laidByTextAt_later rfl rfl tie noOwnUnsafe
theorem tie2 : Tryd.prog.laidByTextLater [("errors.errorType", Rows.laid_errors_errorType), ("lodge/api.ErrShape", Rows.laid_lodge_api_ErrShape), ("lodge/api.ErrRange", Rows.laid_lodge_api_ErrRange), ("lodge/api.ErrKind", Rows.laid_lodge_api_ErrKind), ("lodge/api.ErrMany", Rows.laid_lodge_api_ErrMany), ("lodge/api.ErrEnd", Rows.laid_lodge_api_ErrEnd), ("lodge/api.ErrRoom", Rows.laid_lodge_api_ErrRoom), ("lodge/api.ErrNone", Rows.laid_lodge_api_ErrNone), ("lodge/api.ErrAlias", Rows.laid_lodge_api_ErrAlias), ("lodge/api.ErrCost", Rows.laid_lodge_api_ErrCost), ("lodge/api.ErrJump", Rows.laid_lodge_api_ErrJump), ("lodge/api.ErrCycle", Rows.laid_lodge_api_ErrCycle), ("lodge/api.ErrFuel", Rows.laid_lodge_api_ErrFuel), ("lodge/api.ErrFull", Rows.laid_lodge_api_ErrFull), ("lodge/api.ErrQuota", Rows.laid_lodge_api_ErrQuota), ("lodge/api.ErrCap", Rows.laid_lodge_api_ErrCap), ("lodge/api.ErrStale", Rows.laid_lodge_api_ErrStale), ("lodge/api.ErrTag", Rows.laid_lodge_api_ErrTag), ("lodge/api.ErrOld", Rows.laid_lodge_api_ErrOld), ("lodge/api.ErrTenant", Rows.laid_lodge_api_ErrTenant), ("lodge/api.ErrWord", Rows.laid_lodge_api_ErrWord), ("lodge/api.ErrNumber", Rows.laid_lodge_api_ErrNumber)] [.handle, .sentinel, .sentinel, .sentinel, .sentinel, .sentinel, .sentinel, .sentinel, .sentinel, .sentinel, .sentinel, .sentinel, .sentinel, .sentinel, .sentinel, .sentinel, .sentinel, .sentinel, .sentinel, .sentinel, .sentinel, .sentinel] true :=
  Program.laidByTextLater.sub seatTie1 ["errors.errorType", "lodge/api.ErrShape", "lodge/api.ErrRange", "lodge/api.ErrKind", "lodge/api.ErrMany", "lodge/api.ErrEnd", "lodge/api.ErrRoom", "lodge/api.ErrNone", "lodge/api.ErrAlias", "lodge/api.ErrCost", "lodge/api.ErrJump", "lodge/api.ErrCycle", "lodge/api.ErrFuel", "lodge/api.ErrFull", "lodge/api.ErrQuota", "lodge/api.ErrCap", "lodge/api.ErrStale", "lodge/api.ErrTag", "lodge/api.ErrOld", "lodge/api.ErrTenant", "lodge/api.ErrWord", "lodge/api.ErrNumber"] (by kernel_rfl) (by kernel_rfl)
theorem orderWeights_row_tie : Rows.orderWeightsRow.laidByTextAt .later Tryd.pinned [.handle, .sentinel, .sentinel, .sentinel, .sentinel, .sentinel, .sentinel, .sentinel, .sentinel, .sentinel, .sentinel, .sentinel, .sentinel, .sentinel, .sentinel, .sentinel, .sentinel, .sentinel, .sentinel, .sentinel, .sentinel, .sentinel] true :=
  OpenClaim.laidByTextAt_later rfl rfl tie2 noOwnUnsafe
theorem tie3 : Tryd.prog.laidByTextLater [("errors.errorType", Rows.laid_errors_errorType), ("lodge/api.ErrShape", Rows.laid_lodge_api_ErrShape), ("lodge/api.ErrRange", Rows.laid_lodge_api_ErrRange), ("lodge/api.ErrKind", Rows.laid_lodge_api_ErrKind), ("lodge/api.ErrMany", Rows.laid_lodge_api_ErrMany), ("lodge/api.ErrRoom", Rows.laid_lodge_api_ErrRoom), ("lodge/api.ErrNone", Rows.laid_lodge_api_ErrNone), ("lodge/api.ErrCost", Rows.laid_lodge_api_ErrCost), ("lodge/api.ErrCycle", Rows.laid_lodge_api_ErrCycle)] [.handle, .sentinel, .sentinel, .sentinel, .sentinel, .sentinel, .sentinel, .sentinel, .sentinel] true :=
  Program.laidByTextLater.sub seatTie1 ["errors.errorType", "lodge/api.ErrShape", "lodge/api.ErrRange", "lodge/api.ErrKind", "lodge/api.ErrMany", "lodge/api.ErrRoom", "lodge/api.ErrNone", "lodge/api.ErrCost", "lodge/api.ErrCycle"] (by kernel_rfl) (by kernel_rfl)
theorem genTiles_row_tie : Rows.genTilesRow.laidByTextAt .later Tryd.pinned [.handle, .sentinel, .sentinel, .sentinel, .sentinel, .sentinel, .sentinel, .sentinel, .sentinel] true :=
  OpenClaim.laidByTextAt_later rfl rfl tie3 noOwnUnsafe
theorem genCounts_row_tie : Rows.genCountsRow.laidByTextAt .later Tryd.pinned [.handle, .sentinel, .sentinel, .sentinel, .sentinel, .sentinel, .sentinel, .sentinel, .sentinel] true :=
  OpenClaim.laidByTextAt_later rfl rfl tie3 noOwnUnsafe
theorem genWeights_row_tie : Rows.genWeightsRow.laidByTextAt .later Tryd.pinned [.handle, .sentinel, .sentinel, .sentinel, .sentinel, .sentinel, .sentinel, .sentinel, .sentinel] true :=
  OpenClaim.laidByTextAt_later rfl rfl tie3 noOwnUnsafe
theorem planCopiesUpto_row_tie : Rows.planCopiesUptoRow.laidByTextAt .later Tryd.pinned [.sentinel, .sentinel, .sentinel] true :=
  OpenClaim.laidByTextAt_later rfl rfl tie noOwnUnsafe
theorem orderWeightsUpto_row_tie : Rows.orderWeightsUptoRow.laidByTextAt .later Tryd.pinned [.handle, .sentinel, .sentinel, .sentinel, .sentinel, .sentinel, .sentinel, .sentinel, .sentinel, .sentinel, .sentinel, .sentinel, .sentinel, .sentinel, .sentinel, .sentinel, .sentinel, .sentinel, .sentinel, .sentinel, .sentinel, .sentinel] true :=
  OpenClaim.laidByTextAt_later rfl rfl tie2 noOwnUnsafe
theorem genTilesUpto_row_tie : Rows.genTilesUptoRow.laidByTextAt .later Tryd.pinned [.handle, .sentinel, .sentinel, .sentinel, .sentinel, .sentinel, .sentinel, .sentinel, .sentinel] true :=
  OpenClaim.laidByTextAt_later rfl rfl tie3 noOwnUnsafe
theorem genCountsUpto_row_tie : Rows.genCountsUptoRow.laidByTextAt .later Tryd.pinned [.handle, .sentinel, .sentinel, .sentinel, .sentinel, .sentinel, .sentinel, .sentinel, .sentinel] true :=
  OpenClaim.laidByTextAt_later rfl rfl tie3 noOwnUnsafe
theorem genWeightsUpto_row_tie : Rows.genWeightsUptoRow.laidByTextAt .later Tryd.pinned [.handle, .sentinel, .sentinel, .sentinel, .sentinel, .sentinel, .sentinel, .sentinel, .sentinel] true :=
  OpenClaim.laidByTextAt_later rfl rfl tie3 noOwnUnsafe
end Go.Proofs.YtploijbaclgehaaDoor
