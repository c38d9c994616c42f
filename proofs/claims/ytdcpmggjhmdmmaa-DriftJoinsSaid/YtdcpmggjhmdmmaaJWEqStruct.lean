-- what is used of it (wip/tools/slim.py)
import Derived.Test.YtdcpmggjhmdmmaaJWWords
import Derived.Laws.StructEq
/-! ### 53. '==' of structs as_ one Bool -/
namespace Go.Proofs.YtdcpmggjhmdmmaaW.PrintWords
open Go.RowKit
end Go.Proofs.YtdcpmggjhmdmmaaW.PrintWords
