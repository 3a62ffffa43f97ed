/- What the functions of layer 5 on single kinds compute. No condition. -/
import Derived.Test.YtijidmcblpgfkaaDoorFix
import Derived.Test.YtijidmcblpgfkaaDoorHueNum
set_option linter.unusedVariables false
namespace Go.Proofs.YtijidmcblpgfkaaDoor
open Go.RowKit





end Go.Proofs.YtijidmcblpgfkaaDoor
