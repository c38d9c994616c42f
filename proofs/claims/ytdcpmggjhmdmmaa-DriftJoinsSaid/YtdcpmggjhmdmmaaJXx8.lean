-- what is used of it (wip/tools/slim.py)
-- printed by the session's own program (wip/tools/xprint.py), over the kit's print
import Derived.Test.YtdcpmggjhmdmmaaJXx0
import Derived.Test.YtdcpmggjhmdmmaaJXx6
import Derived.Test.YtdcpmggjhmdmmaaJXx7
namespace Go.Proofs.Ytdcpmggjhmdmmaa.X
open Go.RowKit Go.Proofs.YtdcpmggjhmdmmaaW.PrintWords Go.Proofs.YtdcpmggjhmdmmaaW.PrintLast Go.Proofs.YtdcpmggjhmdmmaaW.PrintMore
attribute [local go_sem] max2_int min2_int max_two min_two max_three min_three max_four min_four   -- for this text's walks alone
set_option linter.unusedVariables false
set_option linter.unusedSimpArgs false
/-! ### schismalaw51_strains: function 18 -/
end Go.Proofs.Ytdcpmggjhmdmmaa.X
