/- What the functions of layer 1 compute, by the program and by the reference: one function of plain numbers each. -/
import Derived.Test.YtikhlpbloffidaaProg
import Derived.Test.YtikhlpbloffidaaNum
set_option linter.unusedVariables false
namespace Go.Proofs.Ytikhlpbloffidaa
open Go.RowKit


























end Go.Proofs.Ytikhlpbloffidaa
