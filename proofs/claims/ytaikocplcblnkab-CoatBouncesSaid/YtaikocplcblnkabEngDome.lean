/- The direction on the side of another one. No condition. -/
import Derived.Test.YtaikocplcblnkabEngUnit
set_option linter.unusedVariables false
namespace Go.Proofs.Ytaikocplcblnkab
open Go.RowKit

def dome_S0 (x0_0 : Int) (x0_1 : Int) (x0_2 : Int) (x1 : Int) (x2 : Int) : Int := (bif (decide (addS (addS (addS 0 (mulS (vunit_S0 (addS (globe_S0 x1 x2) x0_0) (addS (globe_S1 x1 x2) x0_1) (addS (globe_S2 x1 x2) x0_2)) x0_0)) (mulS (vunit_S1 (addS (globe_S0 x1 x2) x0_0) (addS (globe_S1 x1 x2) x0_1) (addS (globe_S2 x1 x2) x0_2)) x0_1)) (mulS (vunit_S2 (addS (globe_S0 x1 x2) x0_0) (addS (globe_S1 x1 x2) x0_1) (addS (globe_S2 x1 x2) x0_2)) x0_2) ≤ 0)) then (x0_0) else (vunit_S0 (addS (globe_S0 x1 x2) x0_0) (addS (globe_S1 x1 x2) x0_1) (addS (globe_S2 x1 x2) x0_2)))
def dome_S1 (x0_0 : Int) (x0_1 : Int) (x0_2 : Int) (x1 : Int) (x2 : Int) : Int := (bif (decide (addS (addS (addS 0 (mulS (vunit_S0 (addS (globe_S0 x1 x2) x0_0) (addS (globe_S1 x1 x2) x0_1) (addS (globe_S2 x1 x2) x0_2)) x0_0)) (mulS (vunit_S1 (addS (globe_S0 x1 x2) x0_0) (addS (globe_S1 x1 x2) x0_1) (addS (globe_S2 x1 x2) x0_2)) x0_1)) (mulS (vunit_S2 (addS (globe_S0 x1 x2) x0_0) (addS (globe_S1 x1 x2) x0_1) (addS (globe_S2 x1 x2) x0_2)) x0_2) ≤ 0)) then (x0_1) else (vunit_S1 (addS (globe_S0 x1 x2) x0_0) (addS (globe_S1 x1 x2) x0_1) (addS (globe_S2 x1 x2) x0_2)))
def dome_S2 (x0_0 : Int) (x0_1 : Int) (x0_2 : Int) (x1 : Int) (x2 : Int) : Int := (bif (decide (addS (addS (addS 0 (mulS (vunit_S0 (addS (globe_S0 x1 x2) x0_0) (addS (globe_S1 x1 x2) x0_1) (addS (globe_S2 x1 x2) x0_2)) x0_0)) (mulS (vunit_S1 (addS (globe_S0 x1 x2) x0_0) (addS (globe_S1 x1 x2) x0_1) (addS (globe_S2 x1 x2) x0_2)) x0_1)) (mulS (vunit_S2 (addS (globe_S0 x1 x2) x0_0) (addS (globe_S1 x1 x2) x0_1) (addS (globe_S2 x1 x2) x0_2)) x0_2) ≤ 0)) then (x0_2) else (vunit_S2 (addS (globe_S0 x1 x2) x0_0) (addS (globe_S1 x1 x2) x0_1) (addS (globe_S2 x1 x2) x0_2)))
theorem dome_eng (x0_0 : Int) (x0_1 : Int) (x0_2 : Int) (x1 : Int) (x2 : Int) (w : World) :
    Calls Try.prog 146 #[.agg #[.int .i64 x0_0, .int .i64 x0_1, .int .i64 x0_2], .int .i64 x1, .int .i64 x2] w fun e w' => e = .returned (Value.agg #[Value.int IntKind.i64 (dome_S0 x0_0 x0_1 x0_2 x1 x2), Value.int IntKind.i64 (dome_S1 x0_0 x0_1 x0_2 x1 x2), Value.int IntKind.i64 (dome_S2 x0_0 x0_1 x0_2 x1 x2)]) ∧ Below w.heap.size w w' := by
  cases h1 : (decide (addS (addS (addS 0 (mulS (vunit_S0 (addS (globe_S0 x1 x2) x0_0) (addS (globe_S1 x1 x2) x0_1) (addS (globe_S2 x1 x2) x0_2)) x0_0)) (mulS (vunit_S1 (addS (globe_S0 x1 x2) x0_0) (addS (globe_S1 x1 x2) x0_1) (addS (globe_S2 x1 x2) x0_2)) x0_1)) (mulS (vunit_S2 (addS (globe_S0 x1 x2) x0_0) (addS (globe_S1 x1 x2) x0_1) (addS (globe_S2 x1 x2) x0_2)) x0_2) ≤ 0)) with
  | true =>
    have e : Value.agg #[Value.int IntKind.i64 (dome_S0 x0_0 x0_1 x0_2 x1 x2), Value.int IntKind.i64 (dome_S1 x0_0 x0_1 x0_2 x1 x2), Value.int IntKind.i64 (dome_S2 x0_0 x0_1 x0_2 x1 x2)] = Value.agg #[Value.int IntKind.i64 (x0_0), Value.int IntKind.i64 (x0_1), Value.int IntKind.i64 (x0_2)] := by
      simp [dome_S0, dome_S1, dome_S2, h1]
    rw [e]
    exact eng_two (C := ⟨consUnit, fun _ => [], fun _ => false, factsL [(3, (decide (addS (addS (addS 0 (mulS (vunit_S0 (addS (globe_S0 x1 x2) x0_0) (addS (globe_S1 x1 x2) x0_1) (addS (globe_S2 x1 x2) x0_2)) x0_0)) (mulS (vunit_S1 (addS (globe_S0 x1 x2) x0_0) (addS (globe_S1 x1 x2) x0_1) (addS (globe_S2 x1 x2) x0_2)) x0_1)) (mulS (vunit_S2 (addS (globe_S0 x1 x2) x0_0) (addS (globe_S1 x1 x2) x0_1) (addS (globe_S2 x1 x2) x0_2)) x0_2) ≤ 0)), true)]⟩) (factsL_ok (by simp [h1])) (n := 30) (f := 146) (args := [.sv (.agg [.val false (.int .i64 x0_0), .val false (.int .i64 x0_1), .val false (.int .i64 x0_2)]), .sv (.one (.val false (.int .i64 x1))), .sv (.one (.val false (.int .i64 x2)))]) rfl (by kernel_rfl) w
  | false =>
    have e : Value.agg #[Value.int IntKind.i64 (dome_S0 x0_0 x0_1 x0_2 x1 x2), Value.int IntKind.i64 (dome_S1 x0_0 x0_1 x0_2 x1 x2), Value.int IntKind.i64 (dome_S2 x0_0 x0_1 x0_2 x1 x2)] = Value.agg #[Value.int IntKind.i64 (vunit_S0 (addS (globe_S0 x1 x2) x0_0) (addS (globe_S1 x1 x2) x0_1) (addS (globe_S2 x1 x2) x0_2)), Value.int IntKind.i64 (vunit_S1 (addS (globe_S0 x1 x2) x0_0) (addS (globe_S1 x1 x2) x0_1) (addS (globe_S2 x1 x2) x0_2)), Value.int IntKind.i64 (vunit_S2 (addS (globe_S0 x1 x2) x0_0) (addS (globe_S1 x1 x2) x0_1) (addS (globe_S2 x1 x2) x0_2))] := by
      simp [dome_S0, dome_S1, dome_S2, h1]
    rw [e]
    exact eng_two (C := ⟨consUnit, fun _ => [], fun _ => false, factsL [(3, (decide (addS (addS (addS 0 (mulS (vunit_S0 (addS (globe_S0 x1 x2) x0_0) (addS (globe_S1 x1 x2) x0_1) (addS (globe_S2 x1 x2) x0_2)) x0_0)) (mulS (vunit_S1 (addS (globe_S0 x1 x2) x0_0) (addS (globe_S1 x1 x2) x0_1) (addS (globe_S2 x1 x2) x0_2)) x0_1)) (mulS (vunit_S2 (addS (globe_S0 x1 x2) x0_0) (addS (globe_S1 x1 x2) x0_1) (addS (globe_S2 x1 x2) x0_2)) x0_2) ≤ 0)), false)]⟩) (factsL_ok (by simp [h1])) (n := 30) (f := 146) (args := [.sv (.agg [.val false (.int .i64 x0_0), .val false (.int .i64 x0_1), .val false (.int .i64 x0_2)]), .sv (.one (.val false (.int .i64 x1))), .sv (.one (.val false (.int .i64 x2)))]) rfl (by kernel_rfl) w
def dome_g : List Value → Option Value
  | [.agg ⟨[.int .i64 x0_0, .int .i64 x0_1, .int .i64 x0_2]⟩, .int .i64 x1, .int .i64 x2] => some (Value.agg #[Value.int IntKind.i64 (dome_S0 x0_0 x0_1 x0_2 x1 x2), Value.int IntKind.i64 (dome_S1 x0_0 x0_1 x0_2 x1 x2), Value.int IntKind.i64 (dome_S2 x0_0 x0_1 x0_2 x1 x2)])
  | _ => none
def dome_con : Con Try.prog := conV Try.prog 146 dome_g fun vs V hV w => by
  unfold dome_g at hV
  split at hV
  · cases hV; exact dome_eng _ _ _ _ _ w
  · cases hV

theorem rdome_eng (x0_0 : Int) (x0_1 : Int) (x0_2 : Int) (x1 : Int) (x2 : Int) (w : World) :
    Calls Try.prog 150 #[.agg #[.int .i64 x0_0, .int .i64 x0_1, .int .i64 x0_2], .int .i64 x1, .int .i64 x2] w fun e w' => e = .returned (Value.agg #[Value.int IntKind.i64 (dome_S0 x0_0 x0_1 x0_2 x1 x2), Value.int IntKind.i64 (dome_S1 x0_0 x0_1 x0_2 x1 x2), Value.int IntKind.i64 (dome_S2 x0_0 x0_1 x0_2 x1 x2)]) ∧ Below w.heap.size w w' := by
  cases h1 : (decide (addS (addS (addS 0 (mulS (vunit_S0 (addS (globe_S0 x1 x2) x0_0) (addS (globe_S1 x1 x2) x0_1) (addS (globe_S2 x1 x2) x0_2)) x0_0)) (mulS (vunit_S1 (addS (globe_S0 x1 x2) x0_0) (addS (globe_S1 x1 x2) x0_1) (addS (globe_S2 x1 x2) x0_2)) x0_1)) (mulS (vunit_S2 (addS (globe_S0 x1 x2) x0_0) (addS (globe_S1 x1 x2) x0_1) (addS (globe_S2 x1 x2) x0_2)) x0_2) ≤ 0)) with
  | true =>
    have e : Value.agg #[Value.int IntKind.i64 (dome_S0 x0_0 x0_1 x0_2 x1 x2), Value.int IntKind.i64 (dome_S1 x0_0 x0_1 x0_2 x1 x2), Value.int IntKind.i64 (dome_S2 x0_0 x0_1 x0_2 x1 x2)] = Value.agg #[Value.int IntKind.i64 (x0_0), Value.int IntKind.i64 (x0_1), Value.int IntKind.i64 (x0_2)] := by
      simp [dome_S0, dome_S1, dome_S2, h1]
    rw [e]
    exact eng_two (C := ⟨consUnit, fun _ => [], fun _ => false, factsL [(3, (decide (addS (addS (addS 0 (mulS (vunit_S0 (addS (globe_S0 x1 x2) x0_0) (addS (globe_S1 x1 x2) x0_1) (addS (globe_S2 x1 x2) x0_2)) x0_0)) (mulS (vunit_S1 (addS (globe_S0 x1 x2) x0_0) (addS (globe_S1 x1 x2) x0_1) (addS (globe_S2 x1 x2) x0_2)) x0_1)) (mulS (vunit_S2 (addS (globe_S0 x1 x2) x0_0) (addS (globe_S1 x1 x2) x0_1) (addS (globe_S2 x1 x2) x0_2)) x0_2) ≤ 0)), true)]⟩) (factsL_ok (by simp [h1])) (n := 30) (f := 150) (args := [.sv (.agg [.val false (.int .i64 x0_0), .val false (.int .i64 x0_1), .val false (.int .i64 x0_2)]), .sv (.one (.val false (.int .i64 x1))), .sv (.one (.val false (.int .i64 x2)))]) rfl (by kernel_rfl) w
  | false =>
    have e : Value.agg #[Value.int IntKind.i64 (dome_S0 x0_0 x0_1 x0_2 x1 x2), Value.int IntKind.i64 (dome_S1 x0_0 x0_1 x0_2 x1 x2), Value.int IntKind.i64 (dome_S2 x0_0 x0_1 x0_2 x1 x2)] = Value.agg #[Value.int IntKind.i64 (vunit_S0 (addS (globe_S0 x1 x2) x0_0) (addS (globe_S1 x1 x2) x0_1) (addS (globe_S2 x1 x2) x0_2)), Value.int IntKind.i64 (vunit_S1 (addS (globe_S0 x1 x2) x0_0) (addS (globe_S1 x1 x2) x0_1) (addS (globe_S2 x1 x2) x0_2)), Value.int IntKind.i64 (vunit_S2 (addS (globe_S0 x1 x2) x0_0) (addS (globe_S1 x1 x2) x0_1) (addS (globe_S2 x1 x2) x0_2))] := by
      simp [dome_S0, dome_S1, dome_S2, h1]
    rw [e]
    exact eng_two (C := ⟨consUnit, fun _ => [], fun _ => false, factsL [(3, (decide (addS (addS (addS 0 (mulS (vunit_S0 (addS (globe_S0 x1 x2) x0_0) (addS (globe_S1 x1 x2) x0_1) (addS (globe_S2 x1 x2) x0_2)) x0_0)) (mulS (vunit_S1 (addS (globe_S0 x1 x2) x0_0) (addS (globe_S1 x1 x2) x0_1) (addS (globe_S2 x1 x2) x0_2)) x0_1)) (mulS (vunit_S2 (addS (globe_S0 x1 x2) x0_0) (addS (globe_S1 x1 x2) x0_1) (addS (globe_S2 x1 x2) x0_2)) x0_2) ≤ 0)), false)]⟩) (factsL_ok (by simp [h1])) (n := 30) (f := 150) (args := [.sv (.agg [.val false (.int .i64 x0_0), .val false (.int .i64 x0_1), .val false (.int .i64 x0_2)]), .sv (.one (.val false (.int .i64 x1))), .sv (.one (.val false (.int .i64 x2)))]) rfl (by kernel_rfl) w
def rdome_g : List Value → Option Value
  | [.agg ⟨[.int .i64 x0_0, .int .i64 x0_1, .int .i64 x0_2]⟩, .int .i64 x1, .int .i64 x2] => some (Value.agg #[Value.int IntKind.i64 (dome_S0 x0_0 x0_1 x0_2 x1 x2), Value.int IntKind.i64 (dome_S1 x0_0 x0_1 x0_2 x1 x2), Value.int IntKind.i64 (dome_S2 x0_0 x0_1 x0_2 x1 x2)])
  | _ => none
def rdome_con : Con Try.prog := conV Try.prog 150 rdome_g fun vs V hV w => by
  unfold rdome_g at hV
  split at hV
  · cases hV; exact rdome_eng _ _ _ _ _ w
  · cases hV

def consDome : List (Con Try.prog) := [
  dome_con,
  dome_con,
  rdome_con,
  rdome_con,
] ++ consUnit
end Go.Proofs.Ytaikocplcblnkab
