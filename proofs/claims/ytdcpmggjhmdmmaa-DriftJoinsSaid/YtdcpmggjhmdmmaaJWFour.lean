-- what is used of it (wip/tools/slim.py)
import Derived.Test.YtdcpmggjhmdmmaaJWTab
/-! ### 56. Four, five, six operations that may come up next, in any order -/
namespace Go.Proofs.YtdcpmggjhmdmmaaW.PrintLast
end Go.Proofs.YtdcpmggjhmdmmaaW.PrintLast
