-- what is used of it (wip/tools/slim.py)
import Derived.Test.YtdcpmggjhmdmmaaTWApart
import Derived.Test.YtdcpmggjhmdmmaaTWArr
/-! ### 42. append(v, make([]T, n)...): the operation comes as_ append with the number in the second place -/
namespace Go.Proofs.YtdcpmggjhmdmmaaW.PrintWords
open Go.RowKit
namespace Kd
/-! #### the same for rows whose elements lie apart -/
end Kd
end Go.Proofs.YtdcpmggjhmdmmaaW.PrintWords
