-- what is used of it (wip/tools/slim.py)
import Derived.Test.YtdcpmggjhmdmmaaJWInv
import Derived.Test.YtdcpmggjhmdmmaaJWFootNe
namespace Go.Proofs.YtdcpmggjhmdmmaaW.PrintWords
open Go.RowKit
end Go.Proofs.YtdcpmggjhmdmmaaW.PrintWords
namespace Go.Proofs.YtdcpmggjhmdmmaaW.PrintLast
end Go.Proofs.YtdcpmggjhmdmmaaW.PrintLast
