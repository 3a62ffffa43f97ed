/- The law CoatLives, walked by the symbolic way: it answers true for all values. No condition. -/
import Derived.Test.YtaikocplcblnkabEngLives
set_option linter.unusedVariables false
namespace Go.Proofs.Ytaikocplcblnkab
open Go.RowKit

theorem walk_CoatLives (x0_0 : Int) (x0_1 : Int) (x0_2 : Int) (x1 : Int) (w : World) (_ : (Lit.int .i64 x0_0).wf = true) (_ : (Lit.int .i64 x0_1).wf = true) (_ : (Lit.int .i64 x0_2).wf = true) (_ : (Lit.int .i64 x1).wf = true) :
    Calls Try.prog 11 #[.agg #[.int .i64 x0_0, .int .i64 x0_1, .int .i64 x0_2], .int .i64 x1] w fun e w' => e = .returned (.bool true) ∧ Below w.heap.size w w' := by
  cases h1 : (decide (x0_0 ≥ 65536)) with
  | true =>
    cases h2 : (!goesS x0_0 x0_1 x0_2 x1) with
    | true =>
      exact eng_two (C := ⟨consLives, fun _ => [], fun f => Nat.beq f 11, factsL [(5, (decide (x0_0 ≥ 65536)), true), (22, !goesS x0_0 x0_1 x0_2 x1, true)]⟩) (factsL_cons h1 (factsL_cons h2 factsL_nil)) (n := 30) (f := 11) (args := [.sv (.agg [.val false (.int .i64 x0_0), .val false (.int .i64 x0_1), .val false (.int .i64 x0_2)]), .sv (.one (.val false (.int .i64 x1)))]) (V := .bool true) rfl (by kernel_rfl) w
    | false =>
      have e : (!decide (x1 < 65536)) = true := by
        simp at h1 h2 ⊢
        rcases Int.lt_or_le x1 65536 with h | h
        · exact (lives_bright h2 h1 h).elim
        · exact h
      have h := eng_two (C := ⟨consLives, fun _ => [], fun f => Nat.beq f 11, factsL [(5, (decide (x0_0 ≥ 65536)), true), (22, !goesS x0_0 x0_1 x0_2 x1, false)]⟩) (factsL_cons h1 (factsL_cons h2 factsL_nil)) (n := 30) (f := 11) (args := [.sv (.agg [.val false (.int .i64 x0_0), .val false (.int .i64 x0_1), .val false (.int .i64 x0_2)]), .sv (.one (.val false (.int .i64 x1)))]) (V := .bool (!decide (x1 < 65536))) rfl (by kernel_rfl) w
      rw [e] at h
      exact h
  | false =>
    cases h2 : (!goesS x0_0 x0_1 x0_2 x1) with
    | true =>
      exact eng_two (C := ⟨consLives, fun _ => [], fun f => Nat.beq f 11, factsL [(5, (decide (x0_0 ≥ 65536)), false), (22, !goesS x0_0 x0_1 x0_2 x1, true)]⟩) (factsL_cons h1 (factsL_cons h2 factsL_nil)) (n := 30) (f := 11) (args := [.sv (.agg [.val false (.int .i64 x0_0), .val false (.int .i64 x0_1), .val false (.int .i64 x0_2)]), .sv (.one (.val false (.int .i64 x1)))]) (V := .bool true) rfl (by kernel_rfl) w
    | false =>
      exact eng_two (C := ⟨consLives, fun _ => [], fun f => Nat.beq f 11, factsL [(5, (decide (x0_0 ≥ 65536)), false), (22, !goesS x0_0 x0_1 x0_2 x1, false)]⟩) (factsL_cons h1 (factsL_cons h2 factsL_nil)) (n := 30) (f := 11) (args := [.sv (.agg [.val false (.int .i64 x0_0), .val false (.int .i64 x0_1), .val false (.int .i64 x0_2)]), .sv (.one (.val false (.int .i64 x1)))]) (V := .bool true) rfl (by kernel_rfl) w
end Go.Proofs.Ytaikocplcblnkab
