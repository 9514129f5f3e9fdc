/-
  Closed facts of this seat that every row of it uses.
-/
import Derived.Test.YtdeabmijoaepcaaRows
import Derived.Test.YtdeabmijoaepcaaLawBase
namespace Go.Proofs.Ytdeabmijoaepcaa.Seat
open Go.ChangeShapes Go.WideShapes Go.ChangeAt Go.RowKit Go.Stk

theorem own : ownKnob Try.prog.godebug = none := by kernel_rfl
theorem laidOut : laidOutB Try.prog = true := by kernel_rfl
end Go.Proofs.Ytdeabmijoaepcaa.Seat
