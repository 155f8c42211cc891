/- The type of a span. No condition. -/
import Derived.Test.YtihjmeoklbmnmaaDoorOwned
namespace Go.Proofs.YtihjmeoklbmnmaaDoor
open Go Go.RowKit

theorem info_span : (Tryd.prog.info? 53).map (fun i => (i.zero, i.size, i.bytes)) = some (some (.agg #[.int .u8 0, .int .u8 0]), 2, 2) := by kernel_rfl

end Go.Proofs.YtihjmeoklbmnmaaDoor
