/- The contracts of layer 1, as the symbolic way takes them. No condition. -/
import Derived.Test.YtaikocplcblnkaaEng12
import Derived.Test.YtaikocplcblnkaaFix
set_option linter.unusedVariables false
namespace Go.Proofs.Ytaikocplcblnkaa
open Go.RowKit

def consFix : List (Con Try.prog) := [
  conI1 Try.prog 104 heldS clamp_any,
  conI1 Try.prog 28 heldS held_any,
  conI2 Try.prog 83 addS fadd_any,
  conI2 Try.prog 85 subS fsub_any,
  conI2 Try.prog 84 addS radd_any,
  conI2 Try.prog 86 subS rsub_any,
  conI1 Try.prog 98 absS fabs_any,
  conI2 Try.prog 87 mulS fmul_any,
  conI1 Try.prog 64 unS funit_any,
  conI1 Try.prog 81 unS runit_any,
  conI1 Try.prog 100 partS fpart_any,
  conI2 Try.prog 88 mulS rmul_any,
  conI3 Try.prog 91 lerpS rlerp_any,
  conI3 Try.prog 90 lerpS flerp_any,
  conI2 Try.prog 97 divS fdiv_any,
  conI2 Try.prog 68 divS rdiv_any,
  conI1 Try.prog 95 rootS froot_any,
  conI1 Try.prog 96 rootS rroot_any,
]
end Go.Proofs.Ytaikocplcblnkaa
