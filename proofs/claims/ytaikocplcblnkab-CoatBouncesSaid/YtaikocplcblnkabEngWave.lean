/- The waves' contracts, as the symbolic way takes them. No condition. -/
import Derived.Test.YtaikocplcblnkabEngVec
import Derived.Test.YtaikocplcblnkabWave
set_option linter.unusedVariables false
namespace Go.Proofs.Ytaikocplcblnkab
open Go.RowKit

def consWave : List (Con Try.prog) := [
  conI1 Try.prog 174 sinS sin_any,
  conI1 Try.prog 177 sinS rsin_any,
  conI1 Try.prog 173 cosS cos_any,
  conI1 Try.prog 176 cosS rcos_any,
] ++ consVec
end Go.Proofs.Ytaikocplcblnkab
