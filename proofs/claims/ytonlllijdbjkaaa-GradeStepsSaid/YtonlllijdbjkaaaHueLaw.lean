/- How light is shown, by the program and by the reference, and the laws on it. No condition. -/
import Derived.Test.YtonlllijdbjkaaaHue
import Derived.Test.YtonlllijdbjkaaaTail
import Derived.Test.YtonlllijdbjkaaaArr
set_option linter.unusedVariables false
namespace Go.Proofs.Ytonlllijdbjkaaa
open Go.RowKit



theorem to05_any (a0 a1 a2 : Int) (w : World) :
    Calls Try.prog 51 #[.agg #[.int .i64 a0, .int .i64 a1, .int .i64 a2]] w
      fun e w' => e = .returned (.agg #[.int .i64 (a0), .int .i64 (a1), .int .i64 (a2)]) ∧ Below w.heap.size w w' := by
  go_enter Try.func51, Try.ntmps51
  go_wp2
  go_returns
  exact ⟨rfl, by go_grown⟩


end Go.Proofs.Ytonlllijdbjkaaa
