/- What the laws of layer 2 call beside. No condition. -/
import Derived.Test.YtpjgeleglmjkfaaVec
import Derived.Test.YtpjgeleglmjkfaaFresh
import Derived.Test.YtpjgeleglmjkfaaArr
import Derived.Deep.DeepCutAuto
import Derived.BigRegion
set_option linter.unusedVariables false
namespace Go.Proofs.Ytpjgeleglmjkfaa
open Go.RowKit

theorem to02_any (a0 a1 a2 : Int) (w : World) :
    Calls Try.prog 34 #[.agg #[.int .i64 a0, .int .i64 a1, .int .i64 a2]] w
      fun e w' => e = .returned (.agg #[.int .i64 (a0), .int .i64 (a1), .int .i64 (a2)]) ∧ Below w.heap.size w w' := by
  go_enter Try.func34, Try.ntmps34
  go_wp2
  go_returns
  exact ⟨rfl, by go_grown⟩

theorem from02_any (a0 a1 a2 : Int) (w : World) :
    Calls Try.prog 35 #[.agg #[.int .i64 a0, .int .i64 a1, .int .i64 a2]] w
      fun e w' => e = .returned (.agg #[.int .i64 (a0), .int .i64 (a1), .int .i64 (a2)]) ∧ Below w.heap.size w w' := by
  go_enter Try.func35, Try.ntmps35
  go_wp2
  go_returns
  exact ⟨rfl, by go_grown⟩

theorem vnew_any (a0 a1 a2 : Int) (w : World) :
    Calls Try.prog 51 #[.int .i64 a0, .int .i64 a1, .int .i64 a2] w
      fun e w' => e = .returned (.agg #[.int .i64 (a0), .int .i64 (a1), .int .i64 (a2)]) ∧ Below w.heap.size w w' := by
  go_enter Try.func51, Try.ntmps51
  go_wp2
  go_returns
  exact ⟨rfl, by go_grown⟩

def vatS (a0 a1 a2 k : Int) : Int := if k = 0 then a0 else if k = 1 then a1 else a2


end Go.Proofs.Ytpjgeleglmjkfaa
