/- The contracts of layer 1, as the symbolic way takes them. No condition. -/
import Derived.Test.YtigjlhhglhbbpaaEngE
import Derived.Test.YtigjlhhglhbbpaaFix
set_option linter.unusedVariables false
namespace Go.Proofs.Ytigjlhhglhbbpaa
open Go.RowKit

def consFix : List (Con Try.prog) := [
  conI1 Try.prog 110 heldS clamp_any,
  conI1 Try.prog 105 heldS held_any,
  conI2 Try.prog 75 addS fadd_any,
  conI2 Try.prog 79 subS fsub_any,
  conI2 Try.prog 84 addS radd_any,
  conI2 Try.prog 82 subS rsub_any,
  conI2 Try.prog 58 mulS fmul_any,
  conI1 Try.prog 147 unS funit_any,
  conI1 Try.prog 107 unS runit_any,
  conI1 Try.prog 113 partS fpart_any,
  conI2 Try.prog 65 mulS rmul_any,
  conI3 Try.prog 54 lerpS rlerp_any,
  conI3 Try.prog 140 lerpS flerp_any,
  conI1 Try.prog 60 ofS fof_any,
  conI1 Try.prog 109 ofS rof_any,
  conI2 Try.prog 59 divS fdiv_any,
  conI2 Try.prog 108 divS rdiv_any,
  conI1 Try.prog 119 rootS froot_any,
  conI1 Try.prog 123 rootS rroot_any,
]
end Go.Proofs.Ytigjlhhglhbbpaa
