/- The waves' contracts, as the symbolic way takes them. No condition. -/
import Derived.Test.YtaikocplcblnkaaEngVec
import Derived.Test.YtaikocplcblnkaaWave
set_option linter.unusedVariables false
namespace Go.Proofs.Ytaikocplcblnkaa
open Go.RowKit

def consWave : List (Con Try.prog) := [
  conI1 Try.prog 59 sinS sin_any,
  conI1 Try.prog 65 sinS rsin_any,
  conI1 Try.prog 60 cosS cos_any,
  conI1 Try.prog 66 cosS rcos_any,
  conI1 Try.prog 62 easeS ease_any,
] ++ consVec
end Go.Proofs.Ytaikocplcblnkaa
