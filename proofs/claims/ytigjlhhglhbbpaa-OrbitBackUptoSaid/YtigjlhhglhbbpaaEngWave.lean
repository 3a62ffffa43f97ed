/- The waves' contracts, as the symbolic way takes them. No condition. -/
import Derived.Test.YtigjlhhglhbbpaaEngVec
import Derived.Test.YtigjlhhglhbbpaaWave
set_option linter.unusedVariables false
namespace Go.Proofs.Ytigjlhhglhbbpaa
open Go.RowKit

def consWave : List (Con Try.prog) := [
  conI1 Try.prog 63 sinS sin_any,
  conI1 Try.prog 67 sinS rsin_any,
  conI1 Try.prog 62 cosS cos_any,
  conI1 Try.prog 66 cosS rcos_any,
  conI1 Try.prog 126 easeS ease_any,
  conI1 Try.prog 129 easeS rease_any,
] ++ consVec
end Go.Proofs.Ytigjlhhglhbbpaa
