/- What lies in a box, what meets. No condition. -/
import Derived.Test.YtaikocplcblnkabEngVec
set_option linter.unusedVariables false
namespace Go.Proofs.Ytaikocplcblnkab
open Go.RowKit

def bhas_S0 (x0_0 : Int) (x0_1 : Int) (x0_2 : Int) (x0_3 : Int) (x0_4 : Int) (x0_5 : Int) (x1_0 : Int) (x1_1 : Int) (x1_2 : Int) : Bool := (bif (decide (x1_0 < x0_0)) then (false) else (bif (decide (x1_0 > x0_3)) then (false) else (bif (decide (x1_1 < x0_1)) then (false) else (bif (decide (x1_1 > x0_4)) then (false) else (bif (decide (x1_2 < x0_2)) then (false) else (bif (decide (x1_2 > x0_5)) then (false) else (true)))))))
theorem bhas_eng (x0_0 : Int) (x0_1 : Int) (x0_2 : Int) (x0_3 : Int) (x0_4 : Int) (x0_5 : Int) (x1_0 : Int) (x1_1 : Int) (x1_2 : Int) (w : World) :
    Calls Try.prog 46 #[.agg #[.int .i64 x0_0, .int .i64 x0_1, .int .i64 x0_2, .int .i64 x0_3, .int .i64 x0_4, .int .i64 x0_5], .agg #[.int .i64 x1_0, .int .i64 x1_1, .int .i64 x1_2]] w fun e w' => e = .returned (Value.bool (bhas_S0 x0_0 x0_1 x0_2 x0_3 x0_4 x0_5 x1_0 x1_1 x1_2)) ∧ Below w.heap.size w w' := by
  cases h1 : (decide (x1_0 < x0_0)) with
  | true =>
    have e : Value.bool (bhas_S0 x0_0 x0_1 x0_2 x0_3 x0_4 x0_5 x1_0 x1_1 x1_2) = Value.bool (false) := by
      simp [bhas_S0, h1]
    rw [e]
    exact eng_two (C := ⟨consVec, fun _ => [], fun _ => false, factsL [(4, (decide (x1_0 < x0_0)), true)]⟩) (factsL_ok (by simp [h1])) (n := 30) (f := 46) (args := [.sv (.agg [.val false (.int .i64 x0_0), .val false (.int .i64 x0_1), .val false (.int .i64 x0_2), .val false (.int .i64 x0_3), .val false (.int .i64 x0_4), .val false (.int .i64 x0_5)]), .sv (.agg [.val false (.int .i64 x1_0), .val false (.int .i64 x1_1), .val false (.int .i64 x1_2)])]) rfl (by kernel_rfl) w
  | false =>
    cases h2 : (decide (x1_0 > x0_3)) with
    | true =>
      have e : Value.bool (bhas_S0 x0_0 x0_1 x0_2 x0_3 x0_4 x0_5 x1_0 x1_1 x1_2) = Value.bool (false) := by
        simp [bhas_S0, h1, h2]
      rw [e]
      exact eng_two (C := ⟨consVec, fun _ => [], fun _ => false, factsL [(4, (decide (x1_0 < x0_0)), false), (6, (decide (x1_0 > x0_3)), true)]⟩) (factsL_ok (by simp [h1, h2])) (n := 30) (f := 46) (args := [.sv (.agg [.val false (.int .i64 x0_0), .val false (.int .i64 x0_1), .val false (.int .i64 x0_2), .val false (.int .i64 x0_3), .val false (.int .i64 x0_4), .val false (.int .i64 x0_5)]), .sv (.agg [.val false (.int .i64 x1_0), .val false (.int .i64 x1_1), .val false (.int .i64 x1_2)])]) rfl (by kernel_rfl) w
    | false =>
      cases h3 : (decide (x1_1 < x0_1)) with
      | true =>
        have e : Value.bool (bhas_S0 x0_0 x0_1 x0_2 x0_3 x0_4 x0_5 x1_0 x1_1 x1_2) = Value.bool (false) := by
          simp [bhas_S0, h1, h2, h3]
        rw [e]
        exact eng_two (C := ⟨consVec, fun _ => [], fun _ => false, factsL [(4, (decide (x1_0 < x0_0)), false), (6, (decide (x1_0 > x0_3)), false), (9, (decide (x1_1 < x0_1)), true)]⟩) (factsL_ok (by simp [h1, h2, h3])) (n := 30) (f := 46) (args := [.sv (.agg [.val false (.int .i64 x0_0), .val false (.int .i64 x0_1), .val false (.int .i64 x0_2), .val false (.int .i64 x0_3), .val false (.int .i64 x0_4), .val false (.int .i64 x0_5)]), .sv (.agg [.val false (.int .i64 x1_0), .val false (.int .i64 x1_1), .val false (.int .i64 x1_2)])]) rfl (by kernel_rfl) w
      | false =>
        cases h4 : (decide (x1_1 > x0_4)) with
        | true =>
          have e : Value.bool (bhas_S0 x0_0 x0_1 x0_2 x0_3 x0_4 x0_5 x1_0 x1_1 x1_2) = Value.bool (false) := by
            simp [bhas_S0, h1, h2, h3, h4]
          rw [e]
          exact eng_two (C := ⟨consVec, fun _ => [], fun _ => false, factsL [(4, (decide (x1_0 < x0_0)), false), (6, (decide (x1_0 > x0_3)), false), (9, (decide (x1_1 < x0_1)), false), (11, (decide (x1_1 > x0_4)), true)]⟩) (factsL_ok (by simp [h1, h2, h3, h4])) (n := 30) (f := 46) (args := [.sv (.agg [.val false (.int .i64 x0_0), .val false (.int .i64 x0_1), .val false (.int .i64 x0_2), .val false (.int .i64 x0_3), .val false (.int .i64 x0_4), .val false (.int .i64 x0_5)]), .sv (.agg [.val false (.int .i64 x1_0), .val false (.int .i64 x1_1), .val false (.int .i64 x1_2)])]) rfl (by kernel_rfl) w
        | false =>
          cases h5 : (decide (x1_2 < x0_2)) with
          | true =>
            have e : Value.bool (bhas_S0 x0_0 x0_1 x0_2 x0_3 x0_4 x0_5 x1_0 x1_1 x1_2) = Value.bool (false) := by
              simp [bhas_S0, h1, h2, h3, h4, h5]
            rw [e]
            exact eng_two (C := ⟨consVec, fun _ => [], fun _ => false, factsL [(4, (decide (x1_0 < x0_0)), false), (6, (decide (x1_0 > x0_3)), false), (9, (decide (x1_1 < x0_1)), false), (11, (decide (x1_1 > x0_4)), false), (14, (decide (x1_2 < x0_2)), true)]⟩) (factsL_ok (by simp [h1, h2, h3, h4, h5])) (n := 30) (f := 46) (args := [.sv (.agg [.val false (.int .i64 x0_0), .val false (.int .i64 x0_1), .val false (.int .i64 x0_2), .val false (.int .i64 x0_3), .val false (.int .i64 x0_4), .val false (.int .i64 x0_5)]), .sv (.agg [.val false (.int .i64 x1_0), .val false (.int .i64 x1_1), .val false (.int .i64 x1_2)])]) rfl (by kernel_rfl) w
          | false =>
            cases h6 : (decide (x1_2 > x0_5)) with
            | true =>
              have e : Value.bool (bhas_S0 x0_0 x0_1 x0_2 x0_3 x0_4 x0_5 x1_0 x1_1 x1_2) = Value.bool (false) := by
                simp [bhas_S0, h1, h2, h3, h4, h5, h6]
              rw [e]
              exact eng_two (C := ⟨consVec, fun _ => [], fun _ => false, factsL [(4, (decide (x1_0 < x0_0)), false), (6, (decide (x1_0 > x0_3)), false), (9, (decide (x1_1 < x0_1)), false), (11, (decide (x1_1 > x0_4)), false), (14, (decide (x1_2 < x0_2)), false), (16, (decide (x1_2 > x0_5)), true)]⟩) (factsL_ok (by simp [h1, h2, h3, h4, h5, h6])) (n := 30) (f := 46) (args := [.sv (.agg [.val false (.int .i64 x0_0), .val false (.int .i64 x0_1), .val false (.int .i64 x0_2), .val false (.int .i64 x0_3), .val false (.int .i64 x0_4), .val false (.int .i64 x0_5)]), .sv (.agg [.val false (.int .i64 x1_0), .val false (.int .i64 x1_1), .val false (.int .i64 x1_2)])]) rfl (by kernel_rfl) w
            | false =>
              have e : Value.bool (bhas_S0 x0_0 x0_1 x0_2 x0_3 x0_4 x0_5 x1_0 x1_1 x1_2) = Value.bool (true) := by
                simp [bhas_S0, h1, h2, h3, h4, h5, h6]
              rw [e]
              exact eng_two (C := ⟨consVec, fun _ => [], fun _ => false, factsL [(4, (decide (x1_0 < x0_0)), false), (6, (decide (x1_0 > x0_3)), false), (9, (decide (x1_1 < x0_1)), false), (11, (decide (x1_1 > x0_4)), false), (14, (decide (x1_2 < x0_2)), false), (16, (decide (x1_2 > x0_5)), false)]⟩) (factsL_ok (by simp [h1, h2, h3, h4, h5, h6])) (n := 30) (f := 46) (args := [.sv (.agg [.val false (.int .i64 x0_0), .val false (.int .i64 x0_1), .val false (.int .i64 x0_2), .val false (.int .i64 x0_3), .val false (.int .i64 x0_4), .val false (.int .i64 x0_5)]), .sv (.agg [.val false (.int .i64 x1_0), .val false (.int .i64 x1_1), .val false (.int .i64 x1_2)])]) rfl (by kernel_rfl) w
def bhas_g : List Value → Option Value
  | [.agg ⟨[.int .i64 x0_0, .int .i64 x0_1, .int .i64 x0_2, .int .i64 x0_3, .int .i64 x0_4, .int .i64 x0_5]⟩, .agg ⟨[.int .i64 x1_0, .int .i64 x1_1, .int .i64 x1_2]⟩] => some (Value.bool (bhas_S0 x0_0 x0_1 x0_2 x0_3 x0_4 x0_5 x1_0 x1_1 x1_2))
  | _ => none
def bhas_con : Con Try.prog := conV Try.prog 46 bhas_g fun vs V hV w => by
  unfold bhas_g at hV
  split at hV
  · cases hV; exact bhas_eng _ _ _ _ _ _ _ _ _ w
  · cases hV

theorem rhas_eng (x0_0 : Int) (x0_1 : Int) (x0_2 : Int) (x0_3 : Int) (x0_4 : Int) (x0_5 : Int) (x1_0 : Int) (x1_1 : Int) (x1_2 : Int) (w : World) :
    Calls Try.prog 47 #[.agg #[.int .i64 x0_0, .int .i64 x0_1, .int .i64 x0_2, .int .i64 x0_3, .int .i64 x0_4, .int .i64 x0_5], .agg #[.int .i64 x1_0, .int .i64 x1_1, .int .i64 x1_2]] w fun e w' => e = .returned (Value.bool (bhas_S0 x0_0 x0_1 x0_2 x0_3 x0_4 x0_5 x1_0 x1_1 x1_2)) ∧ Below w.heap.size w w' := by
  cases h1 : (decide (x1_0 < x0_0)) with
  | true =>
    have e : Value.bool (bhas_S0 x0_0 x0_1 x0_2 x0_3 x0_4 x0_5 x1_0 x1_1 x1_2) = Value.bool (false) := by
      simp [bhas_S0, h1]
    rw [e]
    exact eng_two (C := ⟨consVec, fun _ => [], fun _ => false, factsL [(2, (decide (x1_0 < x0_0)), true)]⟩) (factsL_ok (by simp [h1])) (n := 30) (f := 47) (args := [.sv (.agg [.val false (.int .i64 x0_0), .val false (.int .i64 x0_1), .val false (.int .i64 x0_2), .val false (.int .i64 x0_3), .val false (.int .i64 x0_4), .val false (.int .i64 x0_5)]), .sv (.agg [.val false (.int .i64 x1_0), .val false (.int .i64 x1_1), .val false (.int .i64 x1_2)])]) rfl (by kernel_rfl) w
  | false =>
    cases h2 : (decide (x1_0 > x0_3)) with
    | true =>
      have e : Value.bool (bhas_S0 x0_0 x0_1 x0_2 x0_3 x0_4 x0_5 x1_0 x1_1 x1_2) = Value.bool (false) := by
        simp [bhas_S0, h1, h2]
      rw [e]
      exact eng_two (C := ⟨consVec, fun _ => [], fun _ => false, factsL [(2, (decide (x1_0 < x0_0)), false), (3, (decide (x1_0 > x0_3)), true)]⟩) (factsL_ok (by simp [h1, h2])) (n := 30) (f := 47) (args := [.sv (.agg [.val false (.int .i64 x0_0), .val false (.int .i64 x0_1), .val false (.int .i64 x0_2), .val false (.int .i64 x0_3), .val false (.int .i64 x0_4), .val false (.int .i64 x0_5)]), .sv (.agg [.val false (.int .i64 x1_0), .val false (.int .i64 x1_1), .val false (.int .i64 x1_2)])]) rfl (by kernel_rfl) w
    | false =>
      cases h3 : (decide (x1_1 < x0_1)) with
      | true =>
        have e : Value.bool (bhas_S0 x0_0 x0_1 x0_2 x0_3 x0_4 x0_5 x1_0 x1_1 x1_2) = Value.bool (false) := by
          simp [bhas_S0, h1, h2, h3]
        rw [e]
        exact eng_two (C := ⟨consVec, fun _ => [], fun _ => false, factsL [(2, (decide (x1_0 < x0_0)), false), (3, (decide (x1_0 > x0_3)), false), (4, (decide (x1_1 < x0_1)), true)]⟩) (factsL_ok (by simp [h1, h2, h3])) (n := 30) (f := 47) (args := [.sv (.agg [.val false (.int .i64 x0_0), .val false (.int .i64 x0_1), .val false (.int .i64 x0_2), .val false (.int .i64 x0_3), .val false (.int .i64 x0_4), .val false (.int .i64 x0_5)]), .sv (.agg [.val false (.int .i64 x1_0), .val false (.int .i64 x1_1), .val false (.int .i64 x1_2)])]) rfl (by kernel_rfl) w
      | false =>
        cases h4 : (decide (x1_1 > x0_4)) with
        | true =>
          have e : Value.bool (bhas_S0 x0_0 x0_1 x0_2 x0_3 x0_4 x0_5 x1_0 x1_1 x1_2) = Value.bool (false) := by
            simp [bhas_S0, h1, h2, h3, h4]
          rw [e]
          exact eng_two (C := ⟨consVec, fun _ => [], fun _ => false, factsL [(2, (decide (x1_0 < x0_0)), false), (3, (decide (x1_0 > x0_3)), false), (4, (decide (x1_1 < x0_1)), false), (5, (decide (x1_1 > x0_4)), true)]⟩) (factsL_ok (by simp [h1, h2, h3, h4])) (n := 30) (f := 47) (args := [.sv (.agg [.val false (.int .i64 x0_0), .val false (.int .i64 x0_1), .val false (.int .i64 x0_2), .val false (.int .i64 x0_3), .val false (.int .i64 x0_4), .val false (.int .i64 x0_5)]), .sv (.agg [.val false (.int .i64 x1_0), .val false (.int .i64 x1_1), .val false (.int .i64 x1_2)])]) rfl (by kernel_rfl) w
        | false =>
          cases h5 : (decide (x1_2 < x0_2)) with
          | true =>
            have e : Value.bool (bhas_S0 x0_0 x0_1 x0_2 x0_3 x0_4 x0_5 x1_0 x1_1 x1_2) = Value.bool (false) := by
              simp [bhas_S0, h1, h2, h3, h4, h5]
            rw [e]
            exact eng_two (C := ⟨consVec, fun _ => [], fun _ => false, factsL [(2, (decide (x1_0 < x0_0)), false), (3, (decide (x1_0 > x0_3)), false), (4, (decide (x1_1 < x0_1)), false), (5, (decide (x1_1 > x0_4)), false), (6, (decide (x1_2 < x0_2)), true)]⟩) (factsL_ok (by simp [h1, h2, h3, h4, h5])) (n := 30) (f := 47) (args := [.sv (.agg [.val false (.int .i64 x0_0), .val false (.int .i64 x0_1), .val false (.int .i64 x0_2), .val false (.int .i64 x0_3), .val false (.int .i64 x0_4), .val false (.int .i64 x0_5)]), .sv (.agg [.val false (.int .i64 x1_0), .val false (.int .i64 x1_1), .val false (.int .i64 x1_2)])]) rfl (by kernel_rfl) w
          | false =>
            cases h6 : (decide (x1_2 > x0_5)) with
            | true =>
              have e : Value.bool (bhas_S0 x0_0 x0_1 x0_2 x0_3 x0_4 x0_5 x1_0 x1_1 x1_2) = Value.bool (false) := by
                simp [bhas_S0, h1, h2, h3, h4, h5, h6]
              rw [e]
              exact eng_two (C := ⟨consVec, fun _ => [], fun _ => false, factsL [(2, (decide (x1_0 < x0_0)), false), (3, (decide (x1_0 > x0_3)), false), (4, (decide (x1_1 < x0_1)), false), (5, (decide (x1_1 > x0_4)), false), (6, (decide (x1_2 < x0_2)), false), (7, (decide (x1_2 > x0_5)), true)]⟩) (factsL_ok (by simp [h1, h2, h3, h4, h5, h6])) (n := 30) (f := 47) (args := [.sv (.agg [.val false (.int .i64 x0_0), .val false (.int .i64 x0_1), .val false (.int .i64 x0_2), .val false (.int .i64 x0_3), .val false (.int .i64 x0_4), .val false (.int .i64 x0_5)]), .sv (.agg [.val false (.int .i64 x1_0), .val false (.int .i64 x1_1), .val false (.int .i64 x1_2)])]) rfl (by kernel_rfl) w
            | false =>
              have e : Value.bool (bhas_S0 x0_0 x0_1 x0_2 x0_3 x0_4 x0_5 x1_0 x1_1 x1_2) = Value.bool (true) := by
                simp [bhas_S0, h1, h2, h3, h4, h5, h6]
              rw [e]
              exact eng_two (C := ⟨consVec, fun _ => [], fun _ => false, factsL [(2, (decide (x1_0 < x0_0)), false), (3, (decide (x1_0 > x0_3)), false), (4, (decide (x1_1 < x0_1)), false), (5, (decide (x1_1 > x0_4)), false), (6, (decide (x1_2 < x0_2)), false), (7, (decide (x1_2 > x0_5)), false)]⟩) (factsL_ok (by simp [h1, h2, h3, h4, h5, h6])) (n := 30) (f := 47) (args := [.sv (.agg [.val false (.int .i64 x0_0), .val false (.int .i64 x0_1), .val false (.int .i64 x0_2), .val false (.int .i64 x0_3), .val false (.int .i64 x0_4), .val false (.int .i64 x0_5)]), .sv (.agg [.val false (.int .i64 x1_0), .val false (.int .i64 x1_1), .val false (.int .i64 x1_2)])]) rfl (by kernel_rfl) w
def rhas_g : List Value → Option Value
  | [.agg ⟨[.int .i64 x0_0, .int .i64 x0_1, .int .i64 x0_2, .int .i64 x0_3, .int .i64 x0_4, .int .i64 x0_5]⟩, .agg ⟨[.int .i64 x1_0, .int .i64 x1_1, .int .i64 x1_2]⟩] => some (Value.bool (bhas_S0 x0_0 x0_1 x0_2 x0_3 x0_4 x0_5 x1_0 x1_1 x1_2))
  | _ => none
def rhas_con : Con Try.prog := conV Try.prog 47 rhas_g fun vs V hV w => by
  unfold rhas_g at hV
  split at hV
  · cases hV; exact rhas_eng _ _ _ _ _ _ _ _ _ w
  · cases hV

def bmeets_S0 (x0_0 : Int) (x0_1 : Int) (x0_2 : Int) (x0_3 : Int) (x0_4 : Int) (x0_5 : Int) (x1_0 : Int) (x1_1 : Int) (x1_2 : Int) (x1_3 : Int) (x1_4 : Int) (x1_5 : Int) : Bool := (bif (decide (x1_3 < x0_0)) then (false) else (bif (decide (x1_0 > x0_3)) then (false) else (bif (decide (x1_4 < x0_1)) then (false) else (bif (decide (x1_1 > x0_4)) then (false) else (bif (decide (x1_5 < x0_2)) then (false) else (bif (decide (x1_2 > x0_5)) then (false) else (true)))))))
theorem bmeets_eng (x0_0 : Int) (x0_1 : Int) (x0_2 : Int) (x0_3 : Int) (x0_4 : Int) (x0_5 : Int) (x1_0 : Int) (x1_1 : Int) (x1_2 : Int) (x1_3 : Int) (x1_4 : Int) (x1_5 : Int) (w : World) :
    Calls Try.prog 49 #[.agg #[.int .i64 x0_0, .int .i64 x0_1, .int .i64 x0_2, .int .i64 x0_3, .int .i64 x0_4, .int .i64 x0_5], .agg #[.int .i64 x1_0, .int .i64 x1_1, .int .i64 x1_2, .int .i64 x1_3, .int .i64 x1_4, .int .i64 x1_5]] w fun e w' => e = .returned (Value.bool (bmeets_S0 x0_0 x0_1 x0_2 x0_3 x0_4 x0_5 x1_0 x1_1 x1_2 x1_3 x1_4 x1_5)) ∧ Below w.heap.size w w' := by
  cases h1 : (decide (x1_3 < x0_0)) with
  | true =>
    have e : Value.bool (bmeets_S0 x0_0 x0_1 x0_2 x0_3 x0_4 x0_5 x1_0 x1_1 x1_2 x1_3 x1_4 x1_5) = Value.bool (false) := by
      simp [bmeets_S0, h1]
    rw [e]
    exact eng_two (C := ⟨consVec, fun _ => [], fun _ => false, factsL [(4, (decide (x1_3 < x0_0)), true)]⟩) (factsL_ok (by simp [h1])) (n := 30) (f := 49) (args := [.sv (.agg [.val false (.int .i64 x0_0), .val false (.int .i64 x0_1), .val false (.int .i64 x0_2), .val false (.int .i64 x0_3), .val false (.int .i64 x0_4), .val false (.int .i64 x0_5)]), .sv (.agg [.val false (.int .i64 x1_0), .val false (.int .i64 x1_1), .val false (.int .i64 x1_2), .val false (.int .i64 x1_3), .val false (.int .i64 x1_4), .val false (.int .i64 x1_5)])]) rfl (by kernel_rfl) w
  | false =>
    cases h2 : (decide (x1_0 > x0_3)) with
    | true =>
      have e : Value.bool (bmeets_S0 x0_0 x0_1 x0_2 x0_3 x0_4 x0_5 x1_0 x1_1 x1_2 x1_3 x1_4 x1_5) = Value.bool (false) := by
        simp [bmeets_S0, h1, h2]
      rw [e]
      exact eng_two (C := ⟨consVec, fun _ => [], fun _ => false, factsL [(4, (decide (x1_3 < x0_0)), false), (7, (decide (x1_0 > x0_3)), true)]⟩) (factsL_ok (by simp [h1, h2])) (n := 30) (f := 49) (args := [.sv (.agg [.val false (.int .i64 x0_0), .val false (.int .i64 x0_1), .val false (.int .i64 x0_2), .val false (.int .i64 x0_3), .val false (.int .i64 x0_4), .val false (.int .i64 x0_5)]), .sv (.agg [.val false (.int .i64 x1_0), .val false (.int .i64 x1_1), .val false (.int .i64 x1_2), .val false (.int .i64 x1_3), .val false (.int .i64 x1_4), .val false (.int .i64 x1_5)])]) rfl (by kernel_rfl) w
    | false =>
      cases h3 : (decide (x1_4 < x0_1)) with
      | true =>
        have e : Value.bool (bmeets_S0 x0_0 x0_1 x0_2 x0_3 x0_4 x0_5 x1_0 x1_1 x1_2 x1_3 x1_4 x1_5) = Value.bool (false) := by
          simp [bmeets_S0, h1, h2, h3]
        rw [e]
        exact eng_two (C := ⟨consVec, fun _ => [], fun _ => false, factsL [(4, (decide (x1_3 < x0_0)), false), (7, (decide (x1_0 > x0_3)), false), (10, (decide (x1_4 < x0_1)), true)]⟩) (factsL_ok (by simp [h1, h2, h3])) (n := 30) (f := 49) (args := [.sv (.agg [.val false (.int .i64 x0_0), .val false (.int .i64 x0_1), .val false (.int .i64 x0_2), .val false (.int .i64 x0_3), .val false (.int .i64 x0_4), .val false (.int .i64 x0_5)]), .sv (.agg [.val false (.int .i64 x1_0), .val false (.int .i64 x1_1), .val false (.int .i64 x1_2), .val false (.int .i64 x1_3), .val false (.int .i64 x1_4), .val false (.int .i64 x1_5)])]) rfl (by kernel_rfl) w
      | false =>
        cases h4 : (decide (x1_1 > x0_4)) with
        | true =>
          have e : Value.bool (bmeets_S0 x0_0 x0_1 x0_2 x0_3 x0_4 x0_5 x1_0 x1_1 x1_2 x1_3 x1_4 x1_5) = Value.bool (false) := by
            simp [bmeets_S0, h1, h2, h3, h4]
          rw [e]
          exact eng_two (C := ⟨consVec, fun _ => [], fun _ => false, factsL [(4, (decide (x1_3 < x0_0)), false), (7, (decide (x1_0 > x0_3)), false), (10, (decide (x1_4 < x0_1)), false), (13, (decide (x1_1 > x0_4)), true)]⟩) (factsL_ok (by simp [h1, h2, h3, h4])) (n := 30) (f := 49) (args := [.sv (.agg [.val false (.int .i64 x0_0), .val false (.int .i64 x0_1), .val false (.int .i64 x0_2), .val false (.int .i64 x0_3), .val false (.int .i64 x0_4), .val false (.int .i64 x0_5)]), .sv (.agg [.val false (.int .i64 x1_0), .val false (.int .i64 x1_1), .val false (.int .i64 x1_2), .val false (.int .i64 x1_3), .val false (.int .i64 x1_4), .val false (.int .i64 x1_5)])]) rfl (by kernel_rfl) w
        | false =>
          cases h5 : (decide (x1_5 < x0_2)) with
          | true =>
            have e : Value.bool (bmeets_S0 x0_0 x0_1 x0_2 x0_3 x0_4 x0_5 x1_0 x1_1 x1_2 x1_3 x1_4 x1_5) = Value.bool (false) := by
              simp [bmeets_S0, h1, h2, h3, h4, h5]
            rw [e]
            exact eng_two (C := ⟨consVec, fun _ => [], fun _ => false, factsL [(4, (decide (x1_3 < x0_0)), false), (7, (decide (x1_0 > x0_3)), false), (10, (decide (x1_4 < x0_1)), false), (13, (decide (x1_1 > x0_4)), false), (16, (decide (x1_5 < x0_2)), true)]⟩) (factsL_ok (by simp [h1, h2, h3, h4, h5])) (n := 30) (f := 49) (args := [.sv (.agg [.val false (.int .i64 x0_0), .val false (.int .i64 x0_1), .val false (.int .i64 x0_2), .val false (.int .i64 x0_3), .val false (.int .i64 x0_4), .val false (.int .i64 x0_5)]), .sv (.agg [.val false (.int .i64 x1_0), .val false (.int .i64 x1_1), .val false (.int .i64 x1_2), .val false (.int .i64 x1_3), .val false (.int .i64 x1_4), .val false (.int .i64 x1_5)])]) rfl (by kernel_rfl) w
          | false =>
            cases h6 : (decide (x1_2 > x0_5)) with
            | true =>
              have e : Value.bool (bmeets_S0 x0_0 x0_1 x0_2 x0_3 x0_4 x0_5 x1_0 x1_1 x1_2 x1_3 x1_4 x1_5) = Value.bool (false) := by
                simp [bmeets_S0, h1, h2, h3, h4, h5, h6]
              rw [e]
              exact eng_two (C := ⟨consVec, fun _ => [], fun _ => false, factsL [(4, (decide (x1_3 < x0_0)), false), (7, (decide (x1_0 > x0_3)), false), (10, (decide (x1_4 < x0_1)), false), (13, (decide (x1_1 > x0_4)), false), (16, (decide (x1_5 < x0_2)), false), (19, (decide (x1_2 > x0_5)), true)]⟩) (factsL_ok (by simp [h1, h2, h3, h4, h5, h6])) (n := 30) (f := 49) (args := [.sv (.agg [.val false (.int .i64 x0_0), .val false (.int .i64 x0_1), .val false (.int .i64 x0_2), .val false (.int .i64 x0_3), .val false (.int .i64 x0_4), .val false (.int .i64 x0_5)]), .sv (.agg [.val false (.int .i64 x1_0), .val false (.int .i64 x1_1), .val false (.int .i64 x1_2), .val false (.int .i64 x1_3), .val false (.int .i64 x1_4), .val false (.int .i64 x1_5)])]) rfl (by kernel_rfl) w
            | false =>
              have e : Value.bool (bmeets_S0 x0_0 x0_1 x0_2 x0_3 x0_4 x0_5 x1_0 x1_1 x1_2 x1_3 x1_4 x1_5) = Value.bool (true) := by
                simp [bmeets_S0, h1, h2, h3, h4, h5, h6]
              rw [e]
              exact eng_two (C := ⟨consVec, fun _ => [], fun _ => false, factsL [(4, (decide (x1_3 < x0_0)), false), (7, (decide (x1_0 > x0_3)), false), (10, (decide (x1_4 < x0_1)), false), (13, (decide (x1_1 > x0_4)), false), (16, (decide (x1_5 < x0_2)), false), (19, (decide (x1_2 > x0_5)), false)]⟩) (factsL_ok (by simp [h1, h2, h3, h4, h5, h6])) (n := 30) (f := 49) (args := [.sv (.agg [.val false (.int .i64 x0_0), .val false (.int .i64 x0_1), .val false (.int .i64 x0_2), .val false (.int .i64 x0_3), .val false (.int .i64 x0_4), .val false (.int .i64 x0_5)]), .sv (.agg [.val false (.int .i64 x1_0), .val false (.int .i64 x1_1), .val false (.int .i64 x1_2), .val false (.int .i64 x1_3), .val false (.int .i64 x1_4), .val false (.int .i64 x1_5)])]) rfl (by kernel_rfl) w
def bmeets_g : List Value → Option Value
  | [.agg ⟨[.int .i64 x0_0, .int .i64 x0_1, .int .i64 x0_2, .int .i64 x0_3, .int .i64 x0_4, .int .i64 x0_5]⟩, .agg ⟨[.int .i64 x1_0, .int .i64 x1_1, .int .i64 x1_2, .int .i64 x1_3, .int .i64 x1_4, .int .i64 x1_5]⟩] => some (Value.bool (bmeets_S0 x0_0 x0_1 x0_2 x0_3 x0_4 x0_5 x1_0 x1_1 x1_2 x1_3 x1_4 x1_5))
  | _ => none
def bmeets_con : Con Try.prog := conV Try.prog 49 bmeets_g fun vs V hV w => by
  unfold bmeets_g at hV
  split at hV
  · cases hV; exact bmeets_eng _ _ _ _ _ _ _ _ _ _ _ _ w
  · cases hV

theorem rmeets_eng (x0_0 : Int) (x0_1 : Int) (x0_2 : Int) (x0_3 : Int) (x0_4 : Int) (x0_5 : Int) (x1_0 : Int) (x1_1 : Int) (x1_2 : Int) (x1_3 : Int) (x1_4 : Int) (x1_5 : Int) (w : World) :
    Calls Try.prog 50 #[.agg #[.int .i64 x0_0, .int .i64 x0_1, .int .i64 x0_2, .int .i64 x0_3, .int .i64 x0_4, .int .i64 x0_5], .agg #[.int .i64 x1_0, .int .i64 x1_1, .int .i64 x1_2, .int .i64 x1_3, .int .i64 x1_4, .int .i64 x1_5]] w fun e w' => e = .returned (Value.bool (bmeets_S0 x0_0 x0_1 x0_2 x0_3 x0_4 x0_5 x1_0 x1_1 x1_2 x1_3 x1_4 x1_5)) ∧ Below w.heap.size w w' := by
  cases h1 : (decide (x1_3 < x0_0)) with
  | true =>
    have e : Value.bool (bmeets_S0 x0_0 x0_1 x0_2 x0_3 x0_4 x0_5 x1_0 x1_1 x1_2 x1_3 x1_4 x1_5) = Value.bool (false) := by
      simp [bmeets_S0, h1]
    rw [e]
    exact eng_two (C := ⟨consVec, fun _ => [], fun _ => false, factsL [(2, (decide (x1_3 < x0_0)), true)]⟩) (factsL_ok (by simp [h1])) (n := 30) (f := 50) (args := [.sv (.agg [.val false (.int .i64 x0_0), .val false (.int .i64 x0_1), .val false (.int .i64 x0_2), .val false (.int .i64 x0_3), .val false (.int .i64 x0_4), .val false (.int .i64 x0_5)]), .sv (.agg [.val false (.int .i64 x1_0), .val false (.int .i64 x1_1), .val false (.int .i64 x1_2), .val false (.int .i64 x1_3), .val false (.int .i64 x1_4), .val false (.int .i64 x1_5)])]) rfl (by kernel_rfl) w
  | false =>
    cases h2 : (decide (x1_0 > x0_3)) with
    | true =>
      have e : Value.bool (bmeets_S0 x0_0 x0_1 x0_2 x0_3 x0_4 x0_5 x1_0 x1_1 x1_2 x1_3 x1_4 x1_5) = Value.bool (false) := by
        simp [bmeets_S0, h1, h2]
      rw [e]
      exact eng_two (C := ⟨consVec, fun _ => [], fun _ => false, factsL [(2, (decide (x1_3 < x0_0)), false), (3, (decide (x1_0 > x0_3)), true)]⟩) (factsL_ok (by simp [h1, h2])) (n := 30) (f := 50) (args := [.sv (.agg [.val false (.int .i64 x0_0), .val false (.int .i64 x0_1), .val false (.int .i64 x0_2), .val false (.int .i64 x0_3), .val false (.int .i64 x0_4), .val false (.int .i64 x0_5)]), .sv (.agg [.val false (.int .i64 x1_0), .val false (.int .i64 x1_1), .val false (.int .i64 x1_2), .val false (.int .i64 x1_3), .val false (.int .i64 x1_4), .val false (.int .i64 x1_5)])]) rfl (by kernel_rfl) w
    | false =>
      cases h3 : (decide (x1_4 < x0_1)) with
      | true =>
        have e : Value.bool (bmeets_S0 x0_0 x0_1 x0_2 x0_3 x0_4 x0_5 x1_0 x1_1 x1_2 x1_3 x1_4 x1_5) = Value.bool (false) := by
          simp [bmeets_S0, h1, h2, h3]
        rw [e]
        exact eng_two (C := ⟨consVec, fun _ => [], fun _ => false, factsL [(2, (decide (x1_3 < x0_0)), false), (3, (decide (x1_0 > x0_3)), false), (4, (decide (x1_4 < x0_1)), true)]⟩) (factsL_ok (by simp [h1, h2, h3])) (n := 30) (f := 50) (args := [.sv (.agg [.val false (.int .i64 x0_0), .val false (.int .i64 x0_1), .val false (.int .i64 x0_2), .val false (.int .i64 x0_3), .val false (.int .i64 x0_4), .val false (.int .i64 x0_5)]), .sv (.agg [.val false (.int .i64 x1_0), .val false (.int .i64 x1_1), .val false (.int .i64 x1_2), .val false (.int .i64 x1_3), .val false (.int .i64 x1_4), .val false (.int .i64 x1_5)])]) rfl (by kernel_rfl) w
      | false =>
        cases h4 : (decide (x1_1 > x0_4)) with
        | true =>
          have e : Value.bool (bmeets_S0 x0_0 x0_1 x0_2 x0_3 x0_4 x0_5 x1_0 x1_1 x1_2 x1_3 x1_4 x1_5) = Value.bool (false) := by
            simp [bmeets_S0, h1, h2, h3, h4]
          rw [e]
          exact eng_two (C := ⟨consVec, fun _ => [], fun _ => false, factsL [(2, (decide (x1_3 < x0_0)), false), (3, (decide (x1_0 > x0_3)), false), (4, (decide (x1_4 < x0_1)), false), (5, (decide (x1_1 > x0_4)), true)]⟩) (factsL_ok (by simp [h1, h2, h3, h4])) (n := 30) (f := 50) (args := [.sv (.agg [.val false (.int .i64 x0_0), .val false (.int .i64 x0_1), .val false (.int .i64 x0_2), .val false (.int .i64 x0_3), .val false (.int .i64 x0_4), .val false (.int .i64 x0_5)]), .sv (.agg [.val false (.int .i64 x1_0), .val false (.int .i64 x1_1), .val false (.int .i64 x1_2), .val false (.int .i64 x1_3), .val false (.int .i64 x1_4), .val false (.int .i64 x1_5)])]) rfl (by kernel_rfl) w
        | false =>
          cases h5 : (decide (x1_5 < x0_2)) with
          | true =>
            have e : Value.bool (bmeets_S0 x0_0 x0_1 x0_2 x0_3 x0_4 x0_5 x1_0 x1_1 x1_2 x1_3 x1_4 x1_5) = Value.bool (false) := by
              simp [bmeets_S0, h1, h2, h3, h4, h5]
            rw [e]
            exact eng_two (C := ⟨consVec, fun _ => [], fun _ => false, factsL [(2, (decide (x1_3 < x0_0)), false), (3, (decide (x1_0 > x0_3)), false), (4, (decide (x1_4 < x0_1)), false), (5, (decide (x1_1 > x0_4)), false), (6, (decide (x1_5 < x0_2)), true)]⟩) (factsL_ok (by simp [h1, h2, h3, h4, h5])) (n := 30) (f := 50) (args := [.sv (.agg [.val false (.int .i64 x0_0), .val false (.int .i64 x0_1), .val false (.int .i64 x0_2), .val false (.int .i64 x0_3), .val false (.int .i64 x0_4), .val false (.int .i64 x0_5)]), .sv (.agg [.val false (.int .i64 x1_0), .val false (.int .i64 x1_1), .val false (.int .i64 x1_2), .val false (.int .i64 x1_3), .val false (.int .i64 x1_4), .val false (.int .i64 x1_5)])]) rfl (by kernel_rfl) w
          | false =>
            cases h6 : (decide (x1_2 > x0_5)) with
            | true =>
              have e : Value.bool (bmeets_S0 x0_0 x0_1 x0_2 x0_3 x0_4 x0_5 x1_0 x1_1 x1_2 x1_3 x1_4 x1_5) = Value.bool (false) := by
                simp [bmeets_S0, h1, h2, h3, h4, h5, h6]
              rw [e]
              exact eng_two (C := ⟨consVec, fun _ => [], fun _ => false, factsL [(2, (decide (x1_3 < x0_0)), false), (3, (decide (x1_0 > x0_3)), false), (4, (decide (x1_4 < x0_1)), false), (5, (decide (x1_1 > x0_4)), false), (6, (decide (x1_5 < x0_2)), false), (7, (decide (x1_2 > x0_5)), true)]⟩) (factsL_ok (by simp [h1, h2, h3, h4, h5, h6])) (n := 30) (f := 50) (args := [.sv (.agg [.val false (.int .i64 x0_0), .val false (.int .i64 x0_1), .val false (.int .i64 x0_2), .val false (.int .i64 x0_3), .val false (.int .i64 x0_4), .val false (.int .i64 x0_5)]), .sv (.agg [.val false (.int .i64 x1_0), .val false (.int .i64 x1_1), .val false (.int .i64 x1_2), .val false (.int .i64 x1_3), .val false (.int .i64 x1_4), .val false (.int .i64 x1_5)])]) rfl (by kernel_rfl) w
            | false =>
              have e : Value.bool (bmeets_S0 x0_0 x0_1 x0_2 x0_3 x0_4 x0_5 x1_0 x1_1 x1_2 x1_3 x1_4 x1_5) = Value.bool (true) := by
                simp [bmeets_S0, h1, h2, h3, h4, h5, h6]
              rw [e]
              exact eng_two (C := ⟨consVec, fun _ => [], fun _ => false, factsL [(2, (decide (x1_3 < x0_0)), false), (3, (decide (x1_0 > x0_3)), false), (4, (decide (x1_4 < x0_1)), false), (5, (decide (x1_1 > x0_4)), false), (6, (decide (x1_5 < x0_2)), false), (7, (decide (x1_2 > x0_5)), false)]⟩) (factsL_ok (by simp [h1, h2, h3, h4, h5, h6])) (n := 30) (f := 50) (args := [.sv (.agg [.val false (.int .i64 x0_0), .val false (.int .i64 x0_1), .val false (.int .i64 x0_2), .val false (.int .i64 x0_3), .val false (.int .i64 x0_4), .val false (.int .i64 x0_5)]), .sv (.agg [.val false (.int .i64 x1_0), .val false (.int .i64 x1_1), .val false (.int .i64 x1_2), .val false (.int .i64 x1_3), .val false (.int .i64 x1_4), .val false (.int .i64 x1_5)])]) rfl (by kernel_rfl) w
def rmeets_g : List Value → Option Value
  | [.agg ⟨[.int .i64 x0_0, .int .i64 x0_1, .int .i64 x0_2, .int .i64 x0_3, .int .i64 x0_4, .int .i64 x0_5]⟩, .agg ⟨[.int .i64 x1_0, .int .i64 x1_1, .int .i64 x1_2, .int .i64 x1_3, .int .i64 x1_4, .int .i64 x1_5]⟩] => some (Value.bool (bmeets_S0 x0_0 x0_1 x0_2 x0_3 x0_4 x0_5 x1_0 x1_1 x1_2 x1_3 x1_4 x1_5))
  | _ => none
def rmeets_con : Con Try.prog := conV Try.prog 50 rmeets_g fun vs V hV w => by
  unfold rmeets_g at hV
  split at hV
  · cases hV; exact rmeets_eng _ _ _ _ _ _ _ _ _ _ _ _ w
  · cases hV

theorem addS_zero (a b : Int) : addS 0 (mulS a b) = mulS a b := by
  unfold addS mulS
  generalize heldS a * heldS b / 65536 = x
  simp only [heldS]
  repeat' split
  all_goals omega

theorem bskin_eng (x0_0 x0_1 x0_2 x0_3 x0_4 x0_5 : Int) (w : World) :
    Calls Try.prog 56 #[.agg #[.int .i64 x0_0, .int .i64 x0_1, .int .i64 x0_2, .int .i64 x0_3, .int .i64 x0_4, .int .i64 x0_5]] w fun e w' => e = .returned (Value.int IntKind.i64 (addS (addS (mulS (subS x0_3 x0_0) (subS x0_4 x0_1)) (mulS (subS x0_4 x0_1) (subS x0_5 x0_2))) (mulS (subS x0_5 x0_2) (subS x0_3 x0_0)))) ∧ Below w.heap.size w w' := by
  have h := eng_two (C := ⟨consVec, fun _ => [], fun _ => false, noFacts⟩) noFacts_ok (n := 20) (f := 56) (args := [.sv (.agg [.val false (.int .i64 x0_0), .val false (.int .i64 x0_1), .val false (.int .i64 x0_2), .val false (.int .i64 x0_3), .val false (.int .i64 x0_4), .val false (.int .i64 x0_5)])]) (V := Value.int IntKind.i64 (addS (addS (addS 0 (mulS (subS x0_3 x0_0) (subS x0_4 x0_1))) (mulS (subS x0_4 x0_1) (subS x0_5 x0_2))) (mulS (subS x0_5 x0_2) (subS x0_3 x0_0)))) rfl (by kernel_rfl) w
  rw [addS_zero] at h
  exact h
def bskin_g : List Value → Option Value
  | [.agg ⟨[.int .i64 x0_0, .int .i64 x0_1, .int .i64 x0_2, .int .i64 x0_3, .int .i64 x0_4, .int .i64 x0_5]⟩] => some (Value.int IntKind.i64 (addS (addS (mulS (subS x0_3 x0_0) (subS x0_4 x0_1)) (mulS (subS x0_4 x0_1) (subS x0_5 x0_2))) (mulS (subS x0_5 x0_2) (subS x0_3 x0_0))))
  | _ => none
def bskin_con : Con Try.prog := conV Try.prog 56 bskin_g fun vs V hV w => by
  unfold bskin_g at hV
  split at hV
  · cases hV; exact bskin_eng _ _ _ _ _ _ w
  · cases hV

def consBox : List (Con Try.prog) := [
  bhas_con,
  bhas_con,
  rhas_con,
  rhas_con,
  bmeets_con,
  bmeets_con,
  rmeets_con,
  rmeets_con,
  bskin_con,
  bskin_con,
] ++ consVec
end Go.Proofs.Ytaikocplcblnkab
