/- Closed facts on this seat's tables of types. -/
import Derived.Test.YtkdcelnlhhodlaaRows
import Derived.Test.YtkdcelnlhhodlaaBase
namespace Go.Proofs.Ytkdcelnlhhodlaa
open Go.RowKit

theorem info_u8 : (Try.prog.info? 5).map (fun i => (i.zero, i.size, i.bytes)) = some (some (.int .u8 0), 1, 1) := by kernel_rfl

end Go.Proofs.Ytkdcelnlhhodlaa
