-- what is used of it (wip/tools/slim.py)
-- printed by the session's own program (wip/tools/xprint.py), over the kit's print
import Derived.Test.YtdcpmggjhmdmmaaFXx0
import Derived.Test.YtdcpmggjhmdmmaaFXx2
import Derived.Test.YtdcpmggjhmdmmaaFXx4
namespace Go.Proofs.Ytdcpmggjhmdmmaa.X
open Go.RowKit Go.Proofs.YtdcpmggjhmdmmaaW.PrintWords Go.Proofs.YtdcpmggjhmdmmaaW.PrintLast Go.Proofs.YtdcpmggjhmdmmaaW.PrintMore
attribute [local go_sem] max2_int min2_int max_two min_two max_three min_three max_four min_four   -- for this text's walks alone
set_option linter.unusedVariables false
set_option linter.unusedSimpArgs false
-- NOT PRINTED: function 4 (schismalaw51_DriftFollows)
/-! ### api_Primes_int_41: function 41 -/
-- NOT PRINTED: function 42 (api_Row_42)
/-! ### drift_copied: function 43 -/
-- NOT PRINTED: function 44 (api_Link_44)
-- NOT PRINTED: function 20 (drift_Reverse)
-- NOT PRINTED: function 21 (drift_Repeat)
/-! ### api_Primes_int_45: function 45 -/
-- NOT PRINTED: function 46 (api_Row_46)
-- NOT PRINTED: function 47 (api_Link_47)
-- NOT PRINTED: function 22 (schismalaw51_same)
-- NOT PRINTED: function 5 (schismalaw51_DriftTurns)
/-! ### row_Equal: function 51 -/
-- NOT PRINTED: function 65 (api_Row_65)
-- NOT PRINTED: function 52 (api_Row_52)
-- NOT PRINTED: function 66 (api_Link_66)
-- NOT PRINTED: function 53 (api_Link_53)
/-! ### api_Link_54: function 54 -/
-- NOT PRINTED: function 25 (drift_Join)
/-! ### schismalaw51_empty: function 26 -/
-- NOT PRINTED: function 27 (api_Row_27)
-- NOT PRINTED: function 28 (api_Link_28)
-- NOT PRINTED: function 6 (schismalaw51_DriftJoins)
end Go.Proofs.Ytdcpmggjhmdmmaa.X
