/- The contracts of layer 1, as the symbolic way takes them. No condition. -/
import Derived.Test.YtkbhnomgkmeojaaEng12
import Derived.Test.YtkbhnomgkmeojaaFix
set_option linter.unusedVariables false
namespace Go.Proofs.Ytkbhnomgkmeojaa
open Go.RowKit

def consFix : List (Con Try.prog) := [
  conI1 Try.prog 87 heldS clamp_any,
  conI1 Try.prog 57 heldS held_any,
  conI2 Try.prog 114 addS fadd_any,
  conI2 Try.prog 142 subS fsub_any,
  conI2 Try.prog 78 addS radd_any,
  conI2 Try.prog 147 subS rsub_any,
  conI2 Try.prog 141 mulS fmul_any,
  conI1 Try.prog 115 unS funit_any,
  conI1 Try.prog 120 unS runit_any,
  conI2 Try.prog 143 mulS rmul_any,
  conI3 Try.prog 139 lerpS rlerp_any,
  conI3 Try.prog 137 lerpS flerp_any,
  conI1 Try.prog 83 ofS fof_any,
  conI1 Try.prog 86 ofS rof_any,
  conI2 Try.prog 84 divS fdiv_any,
  conI2 Try.prog 85 divS rdiv_any,
  conI1 Try.prog 113 rootS froot_any,
]
end Go.Proofs.Ytkbhnomgkmeojaa
