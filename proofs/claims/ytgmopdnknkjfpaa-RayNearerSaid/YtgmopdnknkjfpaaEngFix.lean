/- The contracts of layer 1, as the symbolic way takes them. No condition. -/
import Derived.Test.YtgmopdnknkjfpaaEng12
import Derived.Test.YtgmopdnknkjfpaaFix
set_option linter.unusedVariables false
namespace Go.Proofs.Ytgmopdnknkjfpaa
open Go.RowKit

def consFix : List (Con Try.prog) := [
  conI1 Try.prog 50 heldS clamp_any,
  conI1 Try.prog 54 heldS held_any,
  conI2 Try.prog 42 addS fadd_any,
  conI2 Try.prog 49 subS fsub_any,
  conI2 Try.prog 46 addS radd_any,
  conI2 Try.prog 53 subS rsub_any,
  conI1 Try.prog 57 (fun a => heldS (-heldS a)) fneg_any,
  conI2 Try.prog 32 mulS fmul_any,
  conI1 Try.prog 65 unS funit_any,
  conI2 Try.prog 35 mulS rmul_any,
  conI3 Try.prog 44 lerpS flerp_any,
  conI2 Try.prog 59 divS fdiv_any,
  conI1 Try.prog 56 rootS froot_any,
]
end Go.Proofs.Ytgmopdnknkjfpaa
