/-
  DERIVED. GIVEN WITH THE SEED: THE PROGRAM's TIES (one call each: nine closed facts by the kernel) AND EACH ROW's TIE, after the 31st guide's Derived/Test/Toyas{Tie, Card}.lean. No idea stands in it: it is a product of the set-up. Laid BY PROGRAM, IN A SANDBOX (cutbox-door.mjs). By AI agents, Wed Nov 11 2026. No macro, syntax, notation, axiom, sorry.
-/
import Derived.Test.YtcipikacgkkapaaDoorRows
import Derived.LaidByTextLater
import Derived.SevenTiedAt
import Derived.LaidSub
import Derived.LaidOnce
namespace Go.Proofs.YtcipikacgkkapaaDoor
open Go
set_option maxRecDepth 100000
theorem seatTie1 : Tryd.prog.laidByTextLater [("stockade/api.ErrRange", Rows.laid_stockade_api_ErrRange), ("stockade/api.ErrText", Rows.laid_stockade_api_ErrText), ("stockade/api.ErrDepth", Rows.laid_stockade_api_ErrDepth), ("stockade/api.ErrName", Rows.laid_stockade_api_ErrName), ("stockade/api.ErrType", Rows.laid_stockade_api_ErrType), ("stockade/api.ErrLarge", Rows.laid_stockade_api_ErrLarge), ("stockade/api.ErrFull", Rows.laid_stockade_api_ErrFull), ("stockade/api.ErrNone", Rows.laid_stockade_api_ErrNone), ("stockade/api.ErrCode", Rows.laid_stockade_api_ErrCode), ("stockade/api.ErrState", Rows.laid_stockade_api_ErrState), ("stockade/api.ErrFrame", Rows.laid_stockade_api_ErrFrame), ("stockade/api.ErrMac", Rows.laid_stockade_api_ErrMac), ("stockade/api.ErrReplay", Rows.laid_stockade_api_ErrReplay), ("stockade/api.ErrArena", Rows.laid_stockade_api_ErrArena), ("stockade/api.ErrClock", Rows.laid_stockade_api_ErrClock), ("stockade/api.ErrQuota", Rows.laid_stockade_api_ErrQuota), ("stockade/api.ErrTenant", Rows.laid_stockade_api_ErrTenant)] [.sentinel, .sentinel, .sentinel, .sentinel, .sentinel, .sentinel, .sentinel, .sentinel, .sentinel, .sentinel, .sentinel, .sentinel, .sentinel, .sentinel, .sentinel, .sentinel, .sentinel] true :=
  Program.laidByTextLater_by_one 332 8 2 (by kernel_rfl) (by kernel_rfl) (by kernel_rfl) (by kernel_rfl) (by kernel_rfl) (by kernel_rfl) (fun _ _ => by kernel_rfl)
theorem noOwnUnsafe : Tryd.pinned.checked.prog.headLifts.contains "ownunsafe" = false := by kernel_rfl
theorem tie : Tryd.prog.laidByTextLater [("stockade/api.ErrRange", Rows.laid_stockade_api_ErrRange), ("stockade/api.ErrClock", Rows.laid_stockade_api_ErrClock)] [.sentinel, .sentinel] true :=
  Program.laidByTextLater.sub seatTie1 ["stockade/api.ErrRange", "stockade/api.ErrClock"] (by kernel_rfl) (by kernel_rfl)
theorem clockGets_row_tie : Rows.clockGetsRow.laidByTextAt .later Tryd.pinned [.sentinel, .sentinel] true :=
  OpenClaim.laidByTextAt_later rfl rfl tie noOwnUnsafe
theorem clockOrder_row_tie : Rows.clockOrderRow.laidByTextAt .later Tryd.pinned [.sentinel, .sentinel] true :=
  OpenClaim.laidByTextAt_later rfl rfl tie noOwnUnsafe
theorem clockShorts_row_tie : Rows.clockShortsRow.laidByTextAt .later Tryd.pinned [.sentinel, .sentinel] true :=
  OpenClaim.laidByTextAt_later rfl rfl tie noOwnUnsafe
theorem clockZero_row_tie : Rows.clockZeroRow.laidByTextAt .later Tryd.pinned [.sentinel, .sentinel] true :=
  OpenClaim.laidByTextAt_later rfl rfl tie noOwnUnsafe
theorem clockEpochs_row_tie : Rows.clockEpochsRow.laidByTextAt .later Tryd.pinned [.sentinel, .sentinel] true :=
  OpenClaim.laidByTextAt_later rfl rfl tie noOwnUnsafe
theorem clockOf_row_tie : Rows.clockOfRow.laidByTextAt .later Tryd.pinned [.sentinel, .sentinel] true :=
  OpenClaim.laidByTextAt_later rfl rfl tie noOwnUnsafe
theorem tie2 : Tryd.prog.laidByTextLater [("stockade/api.ErrRange", Rows.laid_stockade_api_ErrRange), ("stockade/api.ErrText", Rows.laid_stockade_api_ErrText), ("stockade/api.ErrDepth", Rows.laid_stockade_api_ErrDepth), ("stockade/api.ErrName", Rows.laid_stockade_api_ErrName), ("stockade/api.ErrType", Rows.laid_stockade_api_ErrType), ("stockade/api.ErrLarge", Rows.laid_stockade_api_ErrLarge), ("stockade/api.ErrFull", Rows.laid_stockade_api_ErrFull), ("stockade/api.ErrNone", Rows.laid_stockade_api_ErrNone), ("stockade/api.ErrCode", Rows.laid_stockade_api_ErrCode), ("stockade/api.ErrState", Rows.laid_stockade_api_ErrState), ("stockade/api.ErrFrame", Rows.laid_stockade_api_ErrFrame), ("stockade/api.ErrMac", Rows.laid_stockade_api_ErrMac), ("stockade/api.ErrReplay", Rows.laid_stockade_api_ErrReplay), ("stockade/api.ErrArena", Rows.laid_stockade_api_ErrArena), ("stockade/api.ErrClock", Rows.laid_stockade_api_ErrClock), ("stockade/api.ErrQuota", Rows.laid_stockade_api_ErrQuota), ("stockade/api.ErrTenant", Rows.laid_stockade_api_ErrTenant)] [.sentinel, .sentinel, .sentinel, .sentinel, .sentinel, .sentinel, .sentinel, .sentinel, .sentinel, .sentinel, .sentinel, .sentinel, .sentinel, .sentinel, .sentinel, .sentinel, .sentinel] true :=
  Program.laidByTextLater.sub seatTie1 ["stockade/api.ErrRange", "stockade/api.ErrText", "stockade/api.ErrDepth", "stockade/api.ErrName", "stockade/api.ErrType", "stockade/api.ErrLarge", "stockade/api.ErrFull", "stockade/api.ErrNone", "stockade/api.ErrCode", "stockade/api.ErrState", "stockade/api.ErrFrame", "stockade/api.ErrMac", "stockade/api.ErrReplay", "stockade/api.ErrArena", "stockade/api.ErrClock", "stockade/api.ErrQuota", "stockade/api.ErrTenant"] (by kernel_rfl) (by kernel_rfl)
theorem clockTicks_row_tie : Rows.clockTicksRow.laidByTextAt .later Tryd.pinned [.sentinel, .sentinel, .sentinel, .sentinel, .sentinel, .sentinel, .sentinel, .sentinel, .sentinel, .sentinel, .sentinel, .sentinel, .sentinel, .sentinel, .sentinel, .sentinel, .sentinel] true :=
  OpenClaim.laidByTextAt_later rfl rfl tie2 noOwnUnsafe
theorem clockTells_row_tie : Rows.clockTellsRow.laidByTextAt .later Tryd.pinned [.sentinel, .sentinel, .sentinel, .sentinel, .sentinel, .sentinel, .sentinel, .sentinel, .sentinel, .sentinel, .sentinel, .sentinel, .sentinel, .sentinel, .sentinel, .sentinel, .sentinel] true :=
  OpenClaim.laidByTextAt_later rfl rfl tie2 noOwnUnsafe
theorem clockGetsUpto_row_tie : Rows.clockGetsUptoRow.laidByTextAt .later Tryd.pinned [.sentinel, .sentinel] true :=
  OpenClaim.laidByTextAt_later rfl rfl tie noOwnUnsafe
theorem clockOrderUpto_row_tie : Rows.clockOrderUptoRow.laidByTextAt .later Tryd.pinned [.sentinel, .sentinel] true :=
  OpenClaim.laidByTextAt_later rfl rfl tie noOwnUnsafe
theorem clockShortsUpto_row_tie : Rows.clockShortsUptoRow.laidByTextAt .later Tryd.pinned [.sentinel, .sentinel] true :=
  OpenClaim.laidByTextAt_later rfl rfl tie noOwnUnsafe
theorem clockZeroUpto_row_tie : Rows.clockZeroUptoRow.laidByTextAt .later Tryd.pinned [.sentinel, .sentinel] true :=
  OpenClaim.laidByTextAt_later rfl rfl tie noOwnUnsafe
theorem clockEpochsUpto_row_tie : Rows.clockEpochsUptoRow.laidByTextAt .later Tryd.pinned [.sentinel, .sentinel] true :=
  OpenClaim.laidByTextAt_later rfl rfl tie noOwnUnsafe
theorem clockOfUpto_row_tie : Rows.clockOfUptoRow.laidByTextAt .later Tryd.pinned [.sentinel, .sentinel] true :=
  OpenClaim.laidByTextAt_later rfl rfl tie noOwnUnsafe
theorem clockTicksUpto_row_tie : Rows.clockTicksUptoRow.laidByTextAt .later Tryd.pinned [.sentinel, .sentinel, .sentinel, .sentinel, .sentinel, .sentinel, .sentinel, .sentinel, .sentinel, .sentinel, .sentinel, .sentinel, .sentinel, .sentinel, .sentinel, .sentinel, .sentinel] true :=
  OpenClaim.laidByTextAt_later rfl rfl tie2 noOwnUnsafe
theorem clockTellsUpto_row_tie : Rows.clockTellsUptoRow.laidByTextAt .later Tryd.pinned [.sentinel, .sentinel, .sentinel, .sentinel, .sentinel, .sentinel, .sentinel, .sentinel, .sentinel, .sentinel, .sentinel, .sentinel, .sentinel, .sentinel, .sentinel, .sentinel, .sentinel] true :=
  OpenClaim.laidByTextAt_later rfl rfl tie2 noOwnUnsafe
end Go.Proofs.YtcipikacgkkapaaDoor
