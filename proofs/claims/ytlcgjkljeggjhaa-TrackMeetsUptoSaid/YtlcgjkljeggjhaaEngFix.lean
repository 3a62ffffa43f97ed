/- The contracts of layer 1, as the symbolic way takes them. No condition. -/
import Derived.Test.YtlcgjkljeggjhaaEng12
import Derived.Test.YtlcgjkljeggjhaaFix
set_option linter.unusedVariables false
namespace Go.Proofs.Ytlcgjkljeggjhaa
open Go.RowKit

def consFix : List (Con Try.prog) := [
  conI1 Try.prog 31 heldS clamp_any,
  conI1 Try.prog 17 heldS held_any,
  conI2 Try.prog 35 subS fsub_any,
  conI2 Try.prog 34 mulS fmul_any,
  conI1 Try.prog 33 unS funit_any,
  conI1 Try.prog 40 unS runit_any,
  conI2 Try.prog 41 mulS rmul_any,
  conI3 Try.prog 42 lerpS rlerp_any,
  conI3 Try.prog 38 lerpS flerp_any,
  conI2 Try.prog 20 divS fdiv_any,
  conI2 Try.prog 23 divS rdiv_any,
]
end Go.Proofs.Ytlcgjkljeggjhaa
