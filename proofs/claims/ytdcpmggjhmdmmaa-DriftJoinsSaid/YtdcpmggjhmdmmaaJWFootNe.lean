-- what is used of it (wip/tools/slim.py)
import Derived.Test.YtdcpmggjhmdmmaaJWN
/-! ### 52. A row that stays read whatever happens to a block (a set of blocks) doesn't lie there -/
namespace Go.Proofs.YtdcpmggjhmdmmaaW.PrintWords
open Go.RowKit
namespace Kd
end Kd
end Go.Proofs.YtdcpmggjhmdmmaaW.PrintWords
