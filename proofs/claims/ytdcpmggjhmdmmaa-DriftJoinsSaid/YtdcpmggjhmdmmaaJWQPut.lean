-- what is used of it (wip/tools/slim.py)
import Derived.Test.YtdcpmggjhmdmmaaJWWords
import Derived.Test.YtdcpmggjhmdmmaaJWLast
/-! ### 39. Stores into a row that may begin inside its block (Q): Q_form, Q_elem, Q_seg; scalars: Q_cell, Q_putg -/
namespace Go.Proofs.YtdcpmggjhmdmmaaW.PrintWords
open Go.RowKit
namespace Kd
end Kd
end Go.Proofs.YtdcpmggjhmdmmaaW.PrintWords
