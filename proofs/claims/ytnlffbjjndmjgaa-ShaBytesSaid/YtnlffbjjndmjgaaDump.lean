/- Closed facts on this seat's tables of types. -/
import Derived.Test.YtnlffbjjndmjgaaRows
import Derived.Test.YtnlffbjjndmjgaaBase
namespace Go.Proofs.Ytnlffbjjndmjgaa
open Go.RowKit

theorem info_u8 : (Try.prog.info? 5).map (fun i => (i.zero, i.size, i.bytes)) = some (some (.int .u8 0), 1, 1) := by kernel_rfl

end Go.Proofs.Ytnlffbjjndmjgaa
