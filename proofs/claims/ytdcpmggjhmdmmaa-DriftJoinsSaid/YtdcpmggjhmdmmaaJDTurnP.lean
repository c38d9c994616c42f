-- what is used of it (wip/tools/slim.py)
/- The reversed walk of a right walk is a right walk, its drift is the negative. -/
import Derived.Test.YtdcpmggjhmdmmaaJDReverse
import Derived.Test.YtdcpmggjhmdmmaaJDPlan
namespace Go.Proofs.Ytdcpmggjhmdmmaa.X
open Go.RowKit Go.Proofs.YtdcpmggjhmdmmaaW.PrintWords Go.Proofs.YtdcpmggjhmdmmaaW.PrintLast Go.Proofs.YtdcpmggjhmdmmaaW.PrintMore
set_option linter.unusedVariables false
end Go.Proofs.Ytdcpmggjhmdmmaa.X
