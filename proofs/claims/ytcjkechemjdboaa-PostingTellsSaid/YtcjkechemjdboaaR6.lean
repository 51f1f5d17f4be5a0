import Derived.Test.YtcjkechemjdboaaR3
import Derived.Test.YtcjkechemjdboaaGr
namespace Go.Proofs.Ytcjkechemjdboaa
open Go Go.RowKit
attribute [local go_sem ↓] eqEdge neqEdge guardEdge
theorem inf34 : (Try.prog.info? 71).map (fun i => (i.zero, i.size, i.bytes)) = some (some (.agg #[.int .i64 0, .int .i64 0]), 2, 16) := by kernel_rfl
end Go.Proofs.Ytcjkechemjdboaa
