/- The law PackWorst: it answers true for all values. No condition. -/
import Derived.Test.YtkbhnomgkmeojaaPackWorstT
set_option linter.unusedVariables false
set_option linter.unusedSimpArgs false
namespace Go.Proofs.Ytkbhnomgkmeojaa
open Go.RowKit

theorem lpw_true (x0 : Int) : lpw_res x0 = some true := by
  unfold lpw_res
  by_cases h0 : x0 ≤ 0
  · rw [decide_eq_true h0]; rfl
  have d0 : decide (x0 ≤ (0 : Int)) = false := decide_eq_false h0
  by_cases h1 : x0 > 1073741824
  · have d1 : decide (x0 > (1073741824 : Int)) = true := decide_eq_true h1
    rw [d0, d1]; rfl
  have d1 : decide (x0 > (1073741824 : Int)) = false := decide_eq_false h1
  have w1 : IntKind.i64.wrap (x0 + 128) = x0 + 128 := wrap_in (by omega) (by omega)
  have w2 : IntKind.i64.wrap (x0 + 128 - 1) = x0 + 127 := by rw [wrap_in (by omega) (by omega)]; omega
  have e : (x0 + 127).tdiv 128 = (x0 + 127) / 128 := Int.tdiv_eq_ediv_of_nonneg (by omega)
  generalize hq : (x0 + 127) / 128 = q at e
  have q0 : 1 ≤ q := by omega
  have q1 : q ≤ 8388608 := by omega
  have w3 : IntKind.i64.wrap q = q := wrap_in (by omega) (by omega)
  have w4 : IntKind.i64.wrap (x0 + q) = x0 + q := wrap_in (by omega) (by omega)
  have w5 : IntKind.i64.wrap (x0 + q - x0) = q := by rw [wrap_in (by omega) (by omega)]; omega
  have w6 : IntKind.i64.wrap (q * 128) = q * 128 := wrap_in (by omega) (by omega)
  have w7 : IntKind.i64.wrap (q - 1) = q - 1 := wrap_in (by omega) (by omega)
  have w8 : IntKind.i64.wrap ((q - 1) * 128) = (q - 1) * 128 := wrap_in (by omega) (by omega)
  rw [d0, d1, w1, w2, e, w3, w4, w5, w6, w7, w8]
  have c1 : decide (x0 + q > x0) = true := decide_eq_true (by omega)
  have c2 : decide (q * 128 ≥ x0) = true := decide_eq_true (by omega)
  have c3 : decide ((q - 1) * 128 < x0) = true := decide_eq_true (by omega)
  rw [c1, c2, c3]
  rfl
theorem lpw_call (x0 : Int) : CallOk Try.prog 12 [.sv (.one (.val false (.int .i64 x0)))] [] 0 (lpw_O true) := lpw_tree (lpw_true x0)
end Go.Proofs.Ytkbhnomgkmeojaa
