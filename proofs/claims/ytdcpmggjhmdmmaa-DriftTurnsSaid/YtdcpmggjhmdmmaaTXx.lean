-- what is used of it (wip/tools/slim.py)
-- printed by the session's own program (wip/tools/xprint.py), over the kit's print
import Derived.Test.YtdcpmggjhmdmmaaTXx0
import Derived.Test.YtdcpmggjhmdmmaaTXx1
import Derived.Test.YtdcpmggjhmdmmaaTXx2
import Derived.Test.YtdcpmggjhmdmmaaTXx3
import Derived.Test.YtdcpmggjhmdmmaaTXx4
import Derived.Test.YtdcpmggjhmdmmaaTXx5
import Derived.Test.YtdcpmggjhmdmmaaTXx6
import Derived.Test.YtdcpmggjhmdmmaaTXx7
import Derived.Test.YtdcpmggjhmdmmaaTXx8
import Derived.Test.YtdcpmggjhmdmmaaTXx9
namespace Go.Proofs.Ytdcpmggjhmdmmaa.X
open Go.RowKit Go.Proofs.YtdcpmggjhmdmmaaW.PrintWords Go.Proofs.YtdcpmggjhmdmmaaW.PrintLast Go.Proofs.YtdcpmggjhmdmmaaW.PrintMore
attribute [local go_sem] max2_int min2_int max_two min_two max_three min_three max_four min_four   -- for this text's walks alone
set_option linter.unusedVariables false
set_option linter.unusedSimpArgs false
end Go.Proofs.Ytdcpmggjhmdmmaa.X
