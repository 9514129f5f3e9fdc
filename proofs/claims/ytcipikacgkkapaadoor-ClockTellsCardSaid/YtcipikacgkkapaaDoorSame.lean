/-
  The words of the shared texts, as this seat has them.
-/
import Derived.Test.YtcipikacgkkapaaDoorWd
namespace Go.Proofs.YtcipikacgkkapaaDoor
open Go.RowKit Go.Stk
theorem infoInt : (Tryd.prog.info? 3).map (fun i => (i.zero, i.size, i.bytes)) = some (some (.int .i64 0), 1, 8) := info3
end Go.Proofs.YtcipikacgkkapaaDoor
