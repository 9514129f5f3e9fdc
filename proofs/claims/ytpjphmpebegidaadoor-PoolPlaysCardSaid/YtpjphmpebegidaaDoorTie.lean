/-
  DERIVED. GIVEN WITH THE SEED: THE PROGRAM's TIES (one call each: nine closed facts by the kernel) AND EACH ROW's TIE, after the 31st guide's Derived/Test/Toyas{Tie, Card}.lean. No idea stands in it: it is a product of the set-up. Laid BY PROGRAM, IN A SANDBOX (cutbox-door.mjs). By AI agents, Wed Nov 11 2026. No macro, syntax, notation, axiom, sorry.
-/
import Derived.Test.YtpjphmpebegidaaDoorRows
import Derived.LaidByTextLater
import Derived.SevenTiedAt
import Derived.LaidSub
import Derived.LaidOnce
namespace Go.Proofs.YtpjphmpebegidaaDoor
open Go
set_option maxRecDepth 100000
theorem seatTie1 : Tryd.prog.laidByTextLater [("stockade/api.ErrRange", Rows.laid_stockade_api_ErrRange), ("stockade/api.ErrText", Rows.laid_stockade_api_ErrText), ("stockade/api.ErrDepth", Rows.laid_stockade_api_ErrDepth), ("stockade/api.ErrName", Rows.laid_stockade_api_ErrName), ("stockade/api.ErrType", Rows.laid_stockade_api_ErrType), ("stockade/api.ErrLarge", Rows.laid_stockade_api_ErrLarge), ("stockade/api.ErrFull", Rows.laid_stockade_api_ErrFull), ("stockade/api.ErrNone", Rows.laid_stockade_api_ErrNone), ("stockade/api.ErrCode", Rows.laid_stockade_api_ErrCode), ("stockade/api.ErrState", Rows.laid_stockade_api_ErrState), ("stockade/api.ErrFrame", Rows.laid_stockade_api_ErrFrame), ("stockade/api.ErrMac", Rows.laid_stockade_api_ErrMac), ("stockade/api.ErrReplay", Rows.laid_stockade_api_ErrReplay), ("stockade/api.ErrArena", Rows.laid_stockade_api_ErrArena), ("stockade/api.ErrClock", Rows.laid_stockade_api_ErrClock), ("stockade/api.ErrQuota", Rows.laid_stockade_api_ErrQuota), ("stockade/api.ErrTenant", Rows.laid_stockade_api_ErrTenant)] [.sentinel, .sentinel, .sentinel, .sentinel, .sentinel, .sentinel, .sentinel, .sentinel, .sentinel, .sentinel, .sentinel, .sentinel, .sentinel, .sentinel, .sentinel, .sentinel, .sentinel] true :=
  Program.laidByTextLater_by_one 332 8 2 (by kernel_rfl) (by kernel_rfl) (by kernel_rfl) (by kernel_rfl) (by kernel_rfl) (by kernel_rfl) (fun _ _ => by kernel_rfl)
theorem noOwnUnsafe : Tryd.pinned.checked.prog.headLifts.contains "ownunsafe" = false := by kernel_rfl
theorem tie : Tryd.prog.laidByTextLater [("stockade/api.ErrRange", Rows.laid_stockade_api_ErrRange), ("stockade/api.ErrText", Rows.laid_stockade_api_ErrText), ("stockade/api.ErrDepth", Rows.laid_stockade_api_ErrDepth), ("stockade/api.ErrName", Rows.laid_stockade_api_ErrName), ("stockade/api.ErrType", Rows.laid_stockade_api_ErrType), ("stockade/api.ErrLarge", Rows.laid_stockade_api_ErrLarge), ("stockade/api.ErrFull", Rows.laid_stockade_api_ErrFull), ("stockade/api.ErrNone", Rows.laid_stockade_api_ErrNone), ("stockade/api.ErrCode", Rows.laid_stockade_api_ErrCode), ("stockade/api.ErrState", Rows.laid_stockade_api_ErrState), ("stockade/api.ErrFrame", Rows.laid_stockade_api_ErrFrame), ("stockade/api.ErrMac", Rows.laid_stockade_api_ErrMac), ("stockade/api.ErrReplay", Rows.laid_stockade_api_ErrReplay), ("stockade/api.ErrArena", Rows.laid_stockade_api_ErrArena), ("stockade/api.ErrClock", Rows.laid_stockade_api_ErrClock), ("stockade/api.ErrQuota", Rows.laid_stockade_api_ErrQuota), ("stockade/api.ErrTenant", Rows.laid_stockade_api_ErrTenant)] [.sentinel, .sentinel, .sentinel, .sentinel, .sentinel, .sentinel, .sentinel, .sentinel, .sentinel, .sentinel, .sentinel, .sentinel, .sentinel, .sentinel, .sentinel, .sentinel, .sentinel] true :=
  Program.laidByTextLater.sub seatTie1 ["stockade/api.ErrRange", "stockade/api.ErrText", "stockade/api.ErrDepth", "stockade/api.ErrName", "stockade/api.ErrType", "stockade/api.ErrLarge", "stockade/api.ErrFull", "stockade/api.ErrNone", "stockade/api.ErrCode", "stockade/api.ErrState", "stockade/api.ErrFrame", "stockade/api.ErrMac", "stockade/api.ErrReplay", "stockade/api.ErrArena", "stockade/api.ErrClock", "stockade/api.ErrQuota", "stockade/api.ErrTenant"] (by kernel_rfl) (by kernel_rfl)
theorem poolSizes_row_tie : Rows.poolSizesRow.laidByTextAt .later Tryd.pinned [.sentinel, .sentinel, .sentinel, .sentinel, .sentinel, .sentinel, .sentinel, .sentinel, .sentinel, .sentinel, .sentinel, .sentinel, .sentinel, .sentinel, .sentinel, .sentinel, .sentinel] true :=
  OpenClaim.laidByTextAt_later rfl rfl tie noOwnUnsafe
theorem poolFrees_row_tie : Rows.poolFreesRow.laidByTextAt .later Tryd.pinned [.sentinel, .sentinel, .sentinel, .sentinel, .sentinel, .sentinel, .sentinel, .sentinel, .sentinel, .sentinel, .sentinel, .sentinel, .sentinel, .sentinel, .sentinel, .sentinel, .sentinel] true :=
  OpenClaim.laidByTextAt_later rfl rfl tie noOwnUnsafe
theorem poolBounds_row_tie : Rows.poolBoundsRow.laidByTextAt .later Tryd.pinned [.sentinel, .sentinel, .sentinel, .sentinel, .sentinel, .sentinel, .sentinel, .sentinel, .sentinel, .sentinel, .sentinel, .sentinel, .sentinel, .sentinel, .sentinel, .sentinel, .sentinel] true :=
  OpenClaim.laidByTextAt_later rfl rfl tie noOwnUnsafe
theorem poolZeroes_row_tie : Rows.poolZeroesRow.laidByTextAt .later Tryd.pinned [.sentinel, .sentinel, .sentinel, .sentinel, .sentinel, .sentinel, .sentinel, .sentinel, .sentinel, .sentinel, .sentinel, .sentinel, .sentinel, .sentinel, .sentinel, .sentinel, .sentinel] true :=
  OpenClaim.laidByTextAt_later rfl rfl tie noOwnUnsafe
theorem poolApart_row_tie : Rows.poolApartRow.laidByTextAt .later Tryd.pinned [.sentinel, .sentinel, .sentinel, .sentinel, .sentinel, .sentinel, .sentinel, .sentinel, .sentinel, .sentinel, .sentinel, .sentinel, .sentinel, .sentinel, .sentinel, .sentinel, .sentinel] true :=
  OpenClaim.laidByTextAt_later rfl rfl tie noOwnUnsafe
theorem poolPlays_row_tie : Rows.poolPlaysRow.laidByTextAt .later Tryd.pinned [.sentinel, .sentinel, .sentinel, .sentinel, .sentinel, .sentinel, .sentinel, .sentinel, .sentinel, .sentinel, .sentinel, .sentinel, .sentinel, .sentinel, .sentinel, .sentinel, .sentinel] true :=
  OpenClaim.laidByTextAt_later rfl rfl tie noOwnUnsafe
theorem poolSizesUpto_row_tie : Rows.poolSizesUptoRow.laidByTextAt .later Tryd.pinned [.sentinel, .sentinel, .sentinel, .sentinel, .sentinel, .sentinel, .sentinel, .sentinel, .sentinel, .sentinel, .sentinel, .sentinel, .sentinel, .sentinel, .sentinel, .sentinel, .sentinel] true :=
  OpenClaim.laidByTextAt_later rfl rfl tie noOwnUnsafe
theorem poolFreesUpto_row_tie : Rows.poolFreesUptoRow.laidByTextAt .later Tryd.pinned [.sentinel, .sentinel, .sentinel, .sentinel, .sentinel, .sentinel, .sentinel, .sentinel, .sentinel, .sentinel, .sentinel, .sentinel, .sentinel, .sentinel, .sentinel, .sentinel, .sentinel] true :=
  OpenClaim.laidByTextAt_later rfl rfl tie noOwnUnsafe
theorem poolBoundsUpto_row_tie : Rows.poolBoundsUptoRow.laidByTextAt .later Tryd.pinned [.sentinel, .sentinel, .sentinel, .sentinel, .sentinel, .sentinel, .sentinel, .sentinel, .sentinel, .sentinel, .sentinel, .sentinel, .sentinel, .sentinel, .sentinel, .sentinel, .sentinel] true :=
  OpenClaim.laidByTextAt_later rfl rfl tie noOwnUnsafe
theorem poolZeroesUpto_row_tie : Rows.poolZeroesUptoRow.laidByTextAt .later Tryd.pinned [.sentinel, .sentinel, .sentinel, .sentinel, .sentinel, .sentinel, .sentinel, .sentinel, .sentinel, .sentinel, .sentinel, .sentinel, .sentinel, .sentinel, .sentinel, .sentinel, .sentinel] true :=
  OpenClaim.laidByTextAt_later rfl rfl tie noOwnUnsafe
theorem poolApartUpto_row_tie : Rows.poolApartUptoRow.laidByTextAt .later Tryd.pinned [.sentinel, .sentinel, .sentinel, .sentinel, .sentinel, .sentinel, .sentinel, .sentinel, .sentinel, .sentinel, .sentinel, .sentinel, .sentinel, .sentinel, .sentinel, .sentinel, .sentinel] true :=
  OpenClaim.laidByTextAt_later rfl rfl tie noOwnUnsafe
theorem poolPlaysUpto_row_tie : Rows.poolPlaysUptoRow.laidByTextAt .later Tryd.pinned [.sentinel, .sentinel, .sentinel, .sentinel, .sentinel, .sentinel, .sentinel, .sentinel, .sentinel, .sentinel, .sentinel, .sentinel, .sentinel, .sentinel, .sentinel, .sentinel, .sentinel] true :=
  OpenClaim.laidByTextAt_later rfl rfl tie noOwnUnsafe
end Go.Proofs.YtpjphmpebegidaaDoor
