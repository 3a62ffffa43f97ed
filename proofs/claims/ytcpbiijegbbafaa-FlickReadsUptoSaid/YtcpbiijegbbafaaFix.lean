/- What the functions of layer 1 compute, by the program and by the reference: one function of plain numbers each. -/
import Derived.Test.YtcpbiijegbbafaaProg
import Derived.Test.YtcpbiijegbbafaaNum
set_option linter.unusedVariables false
namespace Go.Proofs.Ytcpbiijegbbafaa
open Go.RowKit


theorem held_any (n : Int) (w : World) :
    Calls Try.prog 132 #[.int .i64 n] w fun e w' => e = .returned (.int .i64 (heldS n)) ∧ w = w' := by
  rcases (by omega : 2147483648 < n ∨ n < -2147483648 ∨ (-2147483648 ≤ n ∧ n ≤ 2147483648)) with h | h | ⟨h, h'⟩
  · skip
    go_enter Try.func132, Try.ntmps132
    go_wp2_with (fail)
    go_ret
    exact ⟨by rw [heldS_hi h]; rfl, rfl⟩
  · skip
    go_enter Try.func132, Try.ntmps132
    go_wp2_with (fail)
    go_ret
    exact ⟨by rw [heldS_lo h]; rfl, rfl⟩
  · skip
    go_enter Try.func132, Try.ntmps132
    go_wp2_with (fail)
    go_ret
    exact ⟨by rw [heldS_id h h']; rfl, rfl⟩
























end Go.Proofs.Ytcpbiijegbbafaa
