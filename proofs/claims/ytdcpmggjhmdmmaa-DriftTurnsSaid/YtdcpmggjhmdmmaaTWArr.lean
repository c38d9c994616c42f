-- what is used of it (wip/tools/slim.py)
import Derived.Test.YtdcpmggjhmdmmaaTWWords
/-! ### 41. Arrays '[n]T' as_ values: a kind (a field, an element of a row), an element read, an element set -/
namespace Go.Proofs.YtdcpmggjhmdmmaaW.PrintWords
open Go.RowKit
namespace Kd
end Kd
end Go.Proofs.YtdcpmggjhmdmmaaW.PrintWords
