/- Whether a way of light goes on. No condition. -/
import Derived.Test.YtaikocplcblnkabEngDome
set_option linter.unusedVariables false
namespace Go.Proofs.Ytaikocplcblnkab
open Go.RowKit

def mostS (a b c : Int) : Int := if c > (if b > a then b else a) then c else (if b > a then b else a)
def chanceS (m : Int) : Int := if unS m > 16384 then unS m else 16384
def goesS (a b c u : Int) : Bool := decide (unS u ≥ chanceS (mostS a b c))
def liveS (x a b c u : Int) : Int := bif goesS a b c u then 0 else divS x (chanceS (mostS a b c))

theorem lives_eng (x0_0 : Int) (x0_1 : Int) (x0_2 : Int) (x1 : Int) (w : World) :
    Calls Try.prog 81 #[.agg #[.int .i64 x0_0, .int .i64 x0_1, .int .i64 x0_2], .int .i64 x1] w fun e w' => e = .returned (Value.tuple #[Value.agg #[Value.int .i64 (liveS x0_0 x0_0 x0_1 x0_2 x1), Value.int .i64 (liveS x0_1 x0_0 x0_1 x0_2 x1), Value.int .i64 (liveS x0_2 x0_0 x0_1 x0_2 x1)], Value.bool (!goesS x0_0 x0_1 x0_2 x1)]) ∧ Below w.heap.size w w' := by
  cases h1 : (decide (unS x1 ≥ if unS (if x0_2 > if x0_1 > x0_0 then x0_1 else x0_0 then x0_2 else if x0_1 > x0_0 then x0_1 else x0_0) > 16384 then unS (if x0_2 > if x0_1 > x0_0 then x0_1 else x0_0 then x0_2 else if x0_1 > x0_0 then x0_1 else x0_0) else 16384)) with
  | true =>
    have e : Value.tuple #[Value.agg #[Value.int .i64 (liveS x0_0 x0_0 x0_1 x0_2 x1), Value.int .i64 (liveS x0_1 x0_0 x0_1 x0_2 x1), Value.int .i64 (liveS x0_2 x0_0 x0_1 x0_2 x1)], Value.bool (!goesS x0_0 x0_1 x0_2 x1)] = Value.tuple #[Value.agg #[Value.int IntKind.i64 (Int.ofNat 0), Value.int IntKind.i64 (Int.ofNat 0), Value.int IntKind.i64 (Int.ofNat 0)], Value.bool (false)] := by
      (have hg : goesS x0_0 x0_1 x0_2 x1 = _ := h1; simp only [liveS, hg]; rfl)
    rw [e]
    exact eng_two (C := ⟨consFix, fun _ => [], fun _ => false, factsL [(2, (decide (unS x1 ≥ if unS (if x0_2 > if x0_1 > x0_0 then x0_1 else x0_0 then x0_2 else if x0_1 > x0_0 then x0_1 else x0_0) > 16384 then unS (if x0_2 > if x0_1 > x0_0 then x0_1 else x0_0 then x0_2 else if x0_1 > x0_0 then x0_1 else x0_0) else 16384)), true)]⟩) (factsL_cons h1 factsL_nil) (n := 30) (f := 81) (args := [.sv (.agg [.val false (.int .i64 x0_0), .val false (.int .i64 x0_1), .val false (.int .i64 x0_2)]), .sv (.one (.val false (.int .i64 x1)))]) rfl (by kernel_rfl) w
  | false =>
    have e : Value.tuple #[Value.agg #[Value.int .i64 (liveS x0_0 x0_0 x0_1 x0_2 x1), Value.int .i64 (liveS x0_1 x0_0 x0_1 x0_2 x1), Value.int .i64 (liveS x0_2 x0_0 x0_1 x0_2 x1)], Value.bool (!goesS x0_0 x0_1 x0_2 x1)] = Value.tuple #[Value.agg #[Value.int IntKind.i64 (divS x0_0 (if unS (if x0_2 > if x0_1 > x0_0 then x0_1 else x0_0 then x0_2 else if x0_1 > x0_0 then x0_1 else x0_0) > 16384 then unS (if x0_2 > if x0_1 > x0_0 then x0_1 else x0_0 then x0_2 else if x0_1 > x0_0 then x0_1 else x0_0) else 16384)), Value.int IntKind.i64 (divS x0_1 (if unS (if x0_2 > if x0_1 > x0_0 then x0_1 else x0_0 then x0_2 else if x0_1 > x0_0 then x0_1 else x0_0) > 16384 then unS (if x0_2 > if x0_1 > x0_0 then x0_1 else x0_0 then x0_2 else if x0_1 > x0_0 then x0_1 else x0_0) else 16384)), Value.int IntKind.i64 (divS x0_2 (if unS (if x0_2 > if x0_1 > x0_0 then x0_1 else x0_0 then x0_2 else if x0_1 > x0_0 then x0_1 else x0_0) > 16384 then unS (if x0_2 > if x0_1 > x0_0 then x0_1 else x0_0 then x0_2 else if x0_1 > x0_0 then x0_1 else x0_0) else 16384))], Value.bool (true)] := by
      (have hg : goesS x0_0 x0_1 x0_2 x1 = _ := h1; simp only [liveS, hg]; rfl)
    rw [e]
    exact eng_two (C := ⟨consFix, fun _ => [], fun _ => false, factsL [(2, (decide (unS x1 ≥ if unS (if x0_2 > if x0_1 > x0_0 then x0_1 else x0_0 then x0_2 else if x0_1 > x0_0 then x0_1 else x0_0) > 16384 then unS (if x0_2 > if x0_1 > x0_0 then x0_1 else x0_0 then x0_2 else if x0_1 > x0_0 then x0_1 else x0_0) else 16384)), false)]⟩) (factsL_cons h1 factsL_nil) (n := 30) (f := 81) (args := [.sv (.agg [.val false (.int .i64 x0_0), .val false (.int .i64 x0_1), .val false (.int .i64 x0_2)]), .sv (.one (.val false (.int .i64 x1)))]) rfl (by kernel_rfl) w
def lives_g : List Value → Option Value
  | [.agg ⟨[.int .i64 x0_0, .int .i64 x0_1, .int .i64 x0_2]⟩, .int .i64 x1] => some (Value.tuple #[Value.agg #[Value.int .i64 (liveS x0_0 x0_0 x0_1 x0_2 x1), Value.int .i64 (liveS x0_1 x0_0 x0_1 x0_2 x1), Value.int .i64 (liveS x0_2 x0_0 x0_1 x0_2 x1)], Value.bool (!goesS x0_0 x0_1 x0_2 x1)])
  | _ => none
def lives_con : Con Try.prog := conV Try.prog 81 lives_g fun vs V hV w => by
  unfold lives_g at hV
  split at hV
  · cases hV; exact lives_eng _ _ _ _ w
  · cases hV

theorem chance_of {a b c m k : Int} (hm : mostS a b c = m) (h : (unS m < 16384 ∧ k = 16384) ∨ (16384 ≤ unS m ∧ k = unS m)) : chanceS (mostS a b c) = k := by
  rw [hm]; unfold chanceS
  split <;> omega
theorem most_of {a b c m : Int} (h : (b > a ∧ c > b ∧ m = c) ∨ (b > a ∧ ¬ c > b ∧ m = b) ∨ (¬ b > a ∧ c > a ∧ m = c) ∨ (¬ b > a ∧ ¬ c > a ∧ m = a)) : mostS a b c = m := by
  unfold mostS
  repeat' split
  all_goals omega

theorem rlives_eng (x0_0 : Int) (x0_1 : Int) (x0_2 : Int) (x1 : Int) (w : World) :
    Calls Try.prog 82 #[.agg #[.int .i64 x0_0, .int .i64 x0_1, .int .i64 x0_2], .int .i64 x1] w fun e w' => e = .returned (Value.tuple #[Value.agg #[Value.int .i64 (liveS x0_0 x0_0 x0_1 x0_2 x1), Value.int .i64 (liveS x0_1 x0_0 x0_1 x0_2 x1), Value.int .i64 (liveS x0_2 x0_0 x0_1 x0_2 x1)], Value.bool (!goesS x0_0 x0_1 x0_2 x1)]) ∧ Below w.heap.size w w' := by
  cases h1 : (decide (x0_1 > x0_0)) with
  | true =>
    cases h2 : (decide (x0_2 > x0_1)) with
    | true =>
      cases h3 : (decide (unS x0_2 < 16384)) with
      | true =>
        cases h4 : (decide (unS x1 ≥ Int.ofNat (16383 + 1))) with
        | true =>
          have e : Value.tuple #[Value.agg #[Value.int .i64 (liveS x0_0 x0_0 x0_1 x0_2 x1), Value.int .i64 (liveS x0_1 x0_0 x0_1 x0_2 x1), Value.int .i64 (liveS x0_2 x0_0 x0_1 x0_2 x1)], Value.bool (!goesS x0_0 x0_1 x0_2 x1)] = Value.tuple #[Value.agg #[Value.int IntKind.i64 (Int.ofNat 0), Value.int IntKind.i64 (Int.ofNat 0), Value.int IntKind.i64 (Int.ofNat 0)], Value.bool (false)] := by
            have hm : mostS x0_0 x0_1 x0_2 = x0_2 := most_of (by simp at h1 h2 h3 h4; omega)
            have hc : chanceS (mostS x0_0 x0_1 x0_2) = 16384 := chance_of hm (by simp at h1 h2 h3 h4; omega)
            simp only [liveS, goesS, hc]
            rw [show decide (unS x1 ≥ 16384) = true from h4]
            rfl
          rw [e]
          exact eng_two (C := ⟨consFix, fun _ => [], fun _ => false, factsL [(2, (decide (x0_1 > x0_0)), true), (3, (decide (x0_2 > x0_1)), true), (4, (decide (unS x0_2 < 16384)), true), (5, (decide (unS x1 ≥ Int.ofNat (16383 + 1))), true)]⟩) (factsL_cons h1 (factsL_cons h2 (factsL_cons h3 (factsL_cons h4 factsL_nil)))) (n := 30) (f := 82) (args := [.sv (.agg [.val false (.int .i64 x0_0), .val false (.int .i64 x0_1), .val false (.int .i64 x0_2)]), .sv (.one (.val false (.int .i64 x1)))]) rfl (by kernel_rfl) w
        | false =>
          have e : Value.tuple #[Value.agg #[Value.int .i64 (liveS x0_0 x0_0 x0_1 x0_2 x1), Value.int .i64 (liveS x0_1 x0_0 x0_1 x0_2 x1), Value.int .i64 (liveS x0_2 x0_0 x0_1 x0_2 x1)], Value.bool (!goesS x0_0 x0_1 x0_2 x1)] = Value.tuple #[Value.agg #[Value.int IntKind.i64 (divS x0_0 (Int.ofNat (16383 + 1))), Value.int IntKind.i64 (divS x0_1 (Int.ofNat (16383 + 1))), Value.int IntKind.i64 (divS x0_2 (Int.ofNat (16383 + 1)))], Value.bool (true)] := by
            have hm : mostS x0_0 x0_1 x0_2 = x0_2 := most_of (by simp at h1 h2 h3 h4; omega)
            have hc : chanceS (mostS x0_0 x0_1 x0_2) = 16384 := chance_of hm (by simp at h1 h2 h3 h4; omega)
            simp only [liveS, goesS, hc]
            rw [show decide (unS x1 ≥ 16384) = false from h4]
            rfl
          rw [e]
          exact eng_two (C := ⟨consFix, fun _ => [], fun _ => false, factsL [(2, (decide (x0_1 > x0_0)), true), (3, (decide (x0_2 > x0_1)), true), (4, (decide (unS x0_2 < 16384)), true), (5, (decide (unS x1 ≥ Int.ofNat (16383 + 1))), false)]⟩) (factsL_cons h1 (factsL_cons h2 (factsL_cons h3 (factsL_cons h4 factsL_nil)))) (n := 30) (f := 82) (args := [.sv (.agg [.val false (.int .i64 x0_0), .val false (.int .i64 x0_1), .val false (.int .i64 x0_2)]), .sv (.one (.val false (.int .i64 x1)))]) rfl (by kernel_rfl) w
      | false =>
        cases h4 : (decide (unS x1 ≥ unS x0_2)) with
        | true =>
          have e : Value.tuple #[Value.agg #[Value.int .i64 (liveS x0_0 x0_0 x0_1 x0_2 x1), Value.int .i64 (liveS x0_1 x0_0 x0_1 x0_2 x1), Value.int .i64 (liveS x0_2 x0_0 x0_1 x0_2 x1)], Value.bool (!goesS x0_0 x0_1 x0_2 x1)] = Value.tuple #[Value.agg #[Value.int IntKind.i64 (Int.ofNat 0), Value.int IntKind.i64 (Int.ofNat 0), Value.int IntKind.i64 (Int.ofNat 0)], Value.bool (false)] := by
            have hm : mostS x0_0 x0_1 x0_2 = x0_2 := most_of (by simp at h1 h2 h3 h4; omega)
            have hc : chanceS (mostS x0_0 x0_1 x0_2) = unS x0_2 := chance_of hm (by simp at h1 h2 h3 h4; omega)
            simp only [liveS, goesS, hc]
            rw [show decide (unS x1 ≥ unS x0_2) = true from h4]
            rfl
          rw [e]
          exact eng_two (C := ⟨consFix, fun _ => [], fun _ => false, factsL [(2, (decide (x0_1 > x0_0)), true), (3, (decide (x0_2 > x0_1)), true), (4, (decide (unS x0_2 < 16384)), false), (5, (decide (unS x1 ≥ unS x0_2)), true)]⟩) (factsL_cons h1 (factsL_cons h2 (factsL_cons h3 (factsL_cons h4 factsL_nil)))) (n := 30) (f := 82) (args := [.sv (.agg [.val false (.int .i64 x0_0), .val false (.int .i64 x0_1), .val false (.int .i64 x0_2)]), .sv (.one (.val false (.int .i64 x1)))]) rfl (by kernel_rfl) w
        | false =>
          have e : Value.tuple #[Value.agg #[Value.int .i64 (liveS x0_0 x0_0 x0_1 x0_2 x1), Value.int .i64 (liveS x0_1 x0_0 x0_1 x0_2 x1), Value.int .i64 (liveS x0_2 x0_0 x0_1 x0_2 x1)], Value.bool (!goesS x0_0 x0_1 x0_2 x1)] = Value.tuple #[Value.agg #[Value.int IntKind.i64 (divS x0_0 (unS x0_2)), Value.int IntKind.i64 (divS x0_1 (unS x0_2)), Value.int IntKind.i64 (divS x0_2 (unS x0_2))], Value.bool (true)] := by
            have hm : mostS x0_0 x0_1 x0_2 = x0_2 := most_of (by simp at h1 h2 h3 h4; omega)
            have hc : chanceS (mostS x0_0 x0_1 x0_2) = unS x0_2 := chance_of hm (by simp at h1 h2 h3 h4; omega)
            simp only [liveS, goesS, hc]
            rw [show decide (unS x1 ≥ unS x0_2) = false from h4]
            rfl
          rw [e]
          exact eng_two (C := ⟨consFix, fun _ => [], fun _ => false, factsL [(2, (decide (x0_1 > x0_0)), true), (3, (decide (x0_2 > x0_1)), true), (4, (decide (unS x0_2 < 16384)), false), (5, (decide (unS x1 ≥ unS x0_2)), false)]⟩) (factsL_cons h1 (factsL_cons h2 (factsL_cons h3 (factsL_cons h4 factsL_nil)))) (n := 30) (f := 82) (args := [.sv (.agg [.val false (.int .i64 x0_0), .val false (.int .i64 x0_1), .val false (.int .i64 x0_2)]), .sv (.one (.val false (.int .i64 x1)))]) rfl (by kernel_rfl) w
    | false =>
      cases h3 : (decide (unS x0_1 < 16384)) with
      | true =>
        cases h4 : (decide (unS x1 ≥ Int.ofNat (16383 + 1))) with
        | true =>
          have e : Value.tuple #[Value.agg #[Value.int .i64 (liveS x0_0 x0_0 x0_1 x0_2 x1), Value.int .i64 (liveS x0_1 x0_0 x0_1 x0_2 x1), Value.int .i64 (liveS x0_2 x0_0 x0_1 x0_2 x1)], Value.bool (!goesS x0_0 x0_1 x0_2 x1)] = Value.tuple #[Value.agg #[Value.int IntKind.i64 (Int.ofNat 0), Value.int IntKind.i64 (Int.ofNat 0), Value.int IntKind.i64 (Int.ofNat 0)], Value.bool (false)] := by
            have hm : mostS x0_0 x0_1 x0_2 = x0_1 := most_of (by simp at h1 h2 h3 h4; omega)
            have hc : chanceS (mostS x0_0 x0_1 x0_2) = 16384 := chance_of hm (by simp at h1 h2 h3 h4; omega)
            simp only [liveS, goesS, hc]
            rw [show decide (unS x1 ≥ 16384) = true from h4]
            rfl
          rw [e]
          exact eng_two (C := ⟨consFix, fun _ => [], fun _ => false, factsL [(2, (decide (x0_1 > x0_0)), true), (3, (decide (x0_2 > x0_1)), false), (4, (decide (unS x0_1 < 16384)), true), (5, (decide (unS x1 ≥ Int.ofNat (16383 + 1))), true)]⟩) (factsL_cons h1 (factsL_cons h2 (factsL_cons h3 (factsL_cons h4 factsL_nil)))) (n := 30) (f := 82) (args := [.sv (.agg [.val false (.int .i64 x0_0), .val false (.int .i64 x0_1), .val false (.int .i64 x0_2)]), .sv (.one (.val false (.int .i64 x1)))]) rfl (by kernel_rfl) w
        | false =>
          have e : Value.tuple #[Value.agg #[Value.int .i64 (liveS x0_0 x0_0 x0_1 x0_2 x1), Value.int .i64 (liveS x0_1 x0_0 x0_1 x0_2 x1), Value.int .i64 (liveS x0_2 x0_0 x0_1 x0_2 x1)], Value.bool (!goesS x0_0 x0_1 x0_2 x1)] = Value.tuple #[Value.agg #[Value.int IntKind.i64 (divS x0_0 (Int.ofNat (16383 + 1))), Value.int IntKind.i64 (divS x0_1 (Int.ofNat (16383 + 1))), Value.int IntKind.i64 (divS x0_2 (Int.ofNat (16383 + 1)))], Value.bool (true)] := by
            have hm : mostS x0_0 x0_1 x0_2 = x0_1 := most_of (by simp at h1 h2 h3 h4; omega)
            have hc : chanceS (mostS x0_0 x0_1 x0_2) = 16384 := chance_of hm (by simp at h1 h2 h3 h4; omega)
            simp only [liveS, goesS, hc]
            rw [show decide (unS x1 ≥ 16384) = false from h4]
            rfl
          rw [e]
          exact eng_two (C := ⟨consFix, fun _ => [], fun _ => false, factsL [(2, (decide (x0_1 > x0_0)), true), (3, (decide (x0_2 > x0_1)), false), (4, (decide (unS x0_1 < 16384)), true), (5, (decide (unS x1 ≥ Int.ofNat (16383 + 1))), false)]⟩) (factsL_cons h1 (factsL_cons h2 (factsL_cons h3 (factsL_cons h4 factsL_nil)))) (n := 30) (f := 82) (args := [.sv (.agg [.val false (.int .i64 x0_0), .val false (.int .i64 x0_1), .val false (.int .i64 x0_2)]), .sv (.one (.val false (.int .i64 x1)))]) rfl (by kernel_rfl) w
      | false =>
        cases h4 : (decide (unS x1 ≥ unS x0_1)) with
        | true =>
          have e : Value.tuple #[Value.agg #[Value.int .i64 (liveS x0_0 x0_0 x0_1 x0_2 x1), Value.int .i64 (liveS x0_1 x0_0 x0_1 x0_2 x1), Value.int .i64 (liveS x0_2 x0_0 x0_1 x0_2 x1)], Value.bool (!goesS x0_0 x0_1 x0_2 x1)] = Value.tuple #[Value.agg #[Value.int IntKind.i64 (Int.ofNat 0), Value.int IntKind.i64 (Int.ofNat 0), Value.int IntKind.i64 (Int.ofNat 0)], Value.bool (false)] := by
            have hm : mostS x0_0 x0_1 x0_2 = x0_1 := most_of (by simp at h1 h2 h3 h4; omega)
            have hc : chanceS (mostS x0_0 x0_1 x0_2) = unS x0_1 := chance_of hm (by simp at h1 h2 h3 h4; omega)
            simp only [liveS, goesS, hc]
            rw [show decide (unS x1 ≥ unS x0_1) = true from h4]
            rfl
          rw [e]
          exact eng_two (C := ⟨consFix, fun _ => [], fun _ => false, factsL [(2, (decide (x0_1 > x0_0)), true), (3, (decide (x0_2 > x0_1)), false), (4, (decide (unS x0_1 < 16384)), false), (5, (decide (unS x1 ≥ unS x0_1)), true)]⟩) (factsL_cons h1 (factsL_cons h2 (factsL_cons h3 (factsL_cons h4 factsL_nil)))) (n := 30) (f := 82) (args := [.sv (.agg [.val false (.int .i64 x0_0), .val false (.int .i64 x0_1), .val false (.int .i64 x0_2)]), .sv (.one (.val false (.int .i64 x1)))]) rfl (by kernel_rfl) w
        | false =>
          have e : Value.tuple #[Value.agg #[Value.int .i64 (liveS x0_0 x0_0 x0_1 x0_2 x1), Value.int .i64 (liveS x0_1 x0_0 x0_1 x0_2 x1), Value.int .i64 (liveS x0_2 x0_0 x0_1 x0_2 x1)], Value.bool (!goesS x0_0 x0_1 x0_2 x1)] = Value.tuple #[Value.agg #[Value.int IntKind.i64 (divS x0_0 (unS x0_1)), Value.int IntKind.i64 (divS x0_1 (unS x0_1)), Value.int IntKind.i64 (divS x0_2 (unS x0_1))], Value.bool (true)] := by
            have hm : mostS x0_0 x0_1 x0_2 = x0_1 := most_of (by simp at h1 h2 h3 h4; omega)
            have hc : chanceS (mostS x0_0 x0_1 x0_2) = unS x0_1 := chance_of hm (by simp at h1 h2 h3 h4; omega)
            simp only [liveS, goesS, hc]
            rw [show decide (unS x1 ≥ unS x0_1) = false from h4]
            rfl
          rw [e]
          exact eng_two (C := ⟨consFix, fun _ => [], fun _ => false, factsL [(2, (decide (x0_1 > x0_0)), true), (3, (decide (x0_2 > x0_1)), false), (4, (decide (unS x0_1 < 16384)), false), (5, (decide (unS x1 ≥ unS x0_1)), false)]⟩) (factsL_cons h1 (factsL_cons h2 (factsL_cons h3 (factsL_cons h4 factsL_nil)))) (n := 30) (f := 82) (args := [.sv (.agg [.val false (.int .i64 x0_0), .val false (.int .i64 x0_1), .val false (.int .i64 x0_2)]), .sv (.one (.val false (.int .i64 x1)))]) rfl (by kernel_rfl) w
  | false =>
    cases h2 : (decide (x0_2 > x0_0)) with
    | true =>
      cases h3 : (decide (unS x0_2 < 16384)) with
      | true =>
        cases h4 : (decide (unS x1 ≥ Int.ofNat (16383 + 1))) with
        | true =>
          have e : Value.tuple #[Value.agg #[Value.int .i64 (liveS x0_0 x0_0 x0_1 x0_2 x1), Value.int .i64 (liveS x0_1 x0_0 x0_1 x0_2 x1), Value.int .i64 (liveS x0_2 x0_0 x0_1 x0_2 x1)], Value.bool (!goesS x0_0 x0_1 x0_2 x1)] = Value.tuple #[Value.agg #[Value.int IntKind.i64 (Int.ofNat 0), Value.int IntKind.i64 (Int.ofNat 0), Value.int IntKind.i64 (Int.ofNat 0)], Value.bool (false)] := by
            have hm : mostS x0_0 x0_1 x0_2 = x0_2 := most_of (by simp at h1 h2 h3 h4; omega)
            have hc : chanceS (mostS x0_0 x0_1 x0_2) = 16384 := chance_of hm (by simp at h1 h2 h3 h4; omega)
            simp only [liveS, goesS, hc]
            rw [show decide (unS x1 ≥ 16384) = true from h4]
            rfl
          rw [e]
          exact eng_two (C := ⟨consFix, fun _ => [], fun _ => false, factsL [(2, (decide (x0_1 > x0_0)), false), (3, (decide (x0_2 > x0_0)), true), (4, (decide (unS x0_2 < 16384)), true), (5, (decide (unS x1 ≥ Int.ofNat (16383 + 1))), true)]⟩) (factsL_cons h1 (factsL_cons h2 (factsL_cons h3 (factsL_cons h4 factsL_nil)))) (n := 30) (f := 82) (args := [.sv (.agg [.val false (.int .i64 x0_0), .val false (.int .i64 x0_1), .val false (.int .i64 x0_2)]), .sv (.one (.val false (.int .i64 x1)))]) rfl (by kernel_rfl) w
        | false =>
          have e : Value.tuple #[Value.agg #[Value.int .i64 (liveS x0_0 x0_0 x0_1 x0_2 x1), Value.int .i64 (liveS x0_1 x0_0 x0_1 x0_2 x1), Value.int .i64 (liveS x0_2 x0_0 x0_1 x0_2 x1)], Value.bool (!goesS x0_0 x0_1 x0_2 x1)] = Value.tuple #[Value.agg #[Value.int IntKind.i64 (divS x0_0 (Int.ofNat (16383 + 1))), Value.int IntKind.i64 (divS x0_1 (Int.ofNat (16383 + 1))), Value.int IntKind.i64 (divS x0_2 (Int.ofNat (16383 + 1)))], Value.bool (true)] := by
            have hm : mostS x0_0 x0_1 x0_2 = x0_2 := most_of (by simp at h1 h2 h3 h4; omega)
            have hc : chanceS (mostS x0_0 x0_1 x0_2) = 16384 := chance_of hm (by simp at h1 h2 h3 h4; omega)
            simp only [liveS, goesS, hc]
            rw [show decide (unS x1 ≥ 16384) = false from h4]
            rfl
          rw [e]
          exact eng_two (C := ⟨consFix, fun _ => [], fun _ => false, factsL [(2, (decide (x0_1 > x0_0)), false), (3, (decide (x0_2 > x0_0)), true), (4, (decide (unS x0_2 < 16384)), true), (5, (decide (unS x1 ≥ Int.ofNat (16383 + 1))), false)]⟩) (factsL_cons h1 (factsL_cons h2 (factsL_cons h3 (factsL_cons h4 factsL_nil)))) (n := 30) (f := 82) (args := [.sv (.agg [.val false (.int .i64 x0_0), .val false (.int .i64 x0_1), .val false (.int .i64 x0_2)]), .sv (.one (.val false (.int .i64 x1)))]) rfl (by kernel_rfl) w
      | false =>
        cases h4 : (decide (unS x1 ≥ unS x0_2)) with
        | true =>
          have e : Value.tuple #[Value.agg #[Value.int .i64 (liveS x0_0 x0_0 x0_1 x0_2 x1), Value.int .i64 (liveS x0_1 x0_0 x0_1 x0_2 x1), Value.int .i64 (liveS x0_2 x0_0 x0_1 x0_2 x1)], Value.bool (!goesS x0_0 x0_1 x0_2 x1)] = Value.tuple #[Value.agg #[Value.int IntKind.i64 (Int.ofNat 0), Value.int IntKind.i64 (Int.ofNat 0), Value.int IntKind.i64 (Int.ofNat 0)], Value.bool (false)] := by
            have hm : mostS x0_0 x0_1 x0_2 = x0_2 := most_of (by simp at h1 h2 h3 h4; omega)
            have hc : chanceS (mostS x0_0 x0_1 x0_2) = unS x0_2 := chance_of hm (by simp at h1 h2 h3 h4; omega)
            simp only [liveS, goesS, hc]
            rw [show decide (unS x1 ≥ unS x0_2) = true from h4]
            rfl
          rw [e]
          exact eng_two (C := ⟨consFix, fun _ => [], fun _ => false, factsL [(2, (decide (x0_1 > x0_0)), false), (3, (decide (x0_2 > x0_0)), true), (4, (decide (unS x0_2 < 16384)), false), (5, (decide (unS x1 ≥ unS x0_2)), true)]⟩) (factsL_cons h1 (factsL_cons h2 (factsL_cons h3 (factsL_cons h4 factsL_nil)))) (n := 30) (f := 82) (args := [.sv (.agg [.val false (.int .i64 x0_0), .val false (.int .i64 x0_1), .val false (.int .i64 x0_2)]), .sv (.one (.val false (.int .i64 x1)))]) rfl (by kernel_rfl) w
        | false =>
          have e : Value.tuple #[Value.agg #[Value.int .i64 (liveS x0_0 x0_0 x0_1 x0_2 x1), Value.int .i64 (liveS x0_1 x0_0 x0_1 x0_2 x1), Value.int .i64 (liveS x0_2 x0_0 x0_1 x0_2 x1)], Value.bool (!goesS x0_0 x0_1 x0_2 x1)] = Value.tuple #[Value.agg #[Value.int IntKind.i64 (divS x0_0 (unS x0_2)), Value.int IntKind.i64 (divS x0_1 (unS x0_2)), Value.int IntKind.i64 (divS x0_2 (unS x0_2))], Value.bool (true)] := by
            have hm : mostS x0_0 x0_1 x0_2 = x0_2 := most_of (by simp at h1 h2 h3 h4; omega)
            have hc : chanceS (mostS x0_0 x0_1 x0_2) = unS x0_2 := chance_of hm (by simp at h1 h2 h3 h4; omega)
            simp only [liveS, goesS, hc]
            rw [show decide (unS x1 ≥ unS x0_2) = false from h4]
            rfl
          rw [e]
          exact eng_two (C := ⟨consFix, fun _ => [], fun _ => false, factsL [(2, (decide (x0_1 > x0_0)), false), (3, (decide (x0_2 > x0_0)), true), (4, (decide (unS x0_2 < 16384)), false), (5, (decide (unS x1 ≥ unS x0_2)), false)]⟩) (factsL_cons h1 (factsL_cons h2 (factsL_cons h3 (factsL_cons h4 factsL_nil)))) (n := 30) (f := 82) (args := [.sv (.agg [.val false (.int .i64 x0_0), .val false (.int .i64 x0_1), .val false (.int .i64 x0_2)]), .sv (.one (.val false (.int .i64 x1)))]) rfl (by kernel_rfl) w
    | false =>
      cases h3 : (decide (unS x0_0 < 16384)) with
      | true =>
        cases h4 : (decide (unS x1 ≥ Int.ofNat (16383 + 1))) with
        | true =>
          have e : Value.tuple #[Value.agg #[Value.int .i64 (liveS x0_0 x0_0 x0_1 x0_2 x1), Value.int .i64 (liveS x0_1 x0_0 x0_1 x0_2 x1), Value.int .i64 (liveS x0_2 x0_0 x0_1 x0_2 x1)], Value.bool (!goesS x0_0 x0_1 x0_2 x1)] = Value.tuple #[Value.agg #[Value.int IntKind.i64 (Int.ofNat 0), Value.int IntKind.i64 (Int.ofNat 0), Value.int IntKind.i64 (Int.ofNat 0)], Value.bool (false)] := by
            have hm : mostS x0_0 x0_1 x0_2 = x0_0 := most_of (by simp at h1 h2 h3 h4; omega)
            have hc : chanceS (mostS x0_0 x0_1 x0_2) = 16384 := chance_of hm (by simp at h1 h2 h3 h4; omega)
            simp only [liveS, goesS, hc]
            rw [show decide (unS x1 ≥ 16384) = true from h4]
            rfl
          rw [e]
          exact eng_two (C := ⟨consFix, fun _ => [], fun _ => false, factsL [(2, (decide (x0_1 > x0_0)), false), (3, (decide (x0_2 > x0_0)), false), (4, (decide (unS x0_0 < 16384)), true), (5, (decide (unS x1 ≥ Int.ofNat (16383 + 1))), true)]⟩) (factsL_cons h1 (factsL_cons h2 (factsL_cons h3 (factsL_cons h4 factsL_nil)))) (n := 30) (f := 82) (args := [.sv (.agg [.val false (.int .i64 x0_0), .val false (.int .i64 x0_1), .val false (.int .i64 x0_2)]), .sv (.one (.val false (.int .i64 x1)))]) rfl (by kernel_rfl) w
        | false =>
          have e : Value.tuple #[Value.agg #[Value.int .i64 (liveS x0_0 x0_0 x0_1 x0_2 x1), Value.int .i64 (liveS x0_1 x0_0 x0_1 x0_2 x1), Value.int .i64 (liveS x0_2 x0_0 x0_1 x0_2 x1)], Value.bool (!goesS x0_0 x0_1 x0_2 x1)] = Value.tuple #[Value.agg #[Value.int IntKind.i64 (divS x0_0 (Int.ofNat (16383 + 1))), Value.int IntKind.i64 (divS x0_1 (Int.ofNat (16383 + 1))), Value.int IntKind.i64 (divS x0_2 (Int.ofNat (16383 + 1)))], Value.bool (true)] := by
            have hm : mostS x0_0 x0_1 x0_2 = x0_0 := most_of (by simp at h1 h2 h3 h4; omega)
            have hc : chanceS (mostS x0_0 x0_1 x0_2) = 16384 := chance_of hm (by simp at h1 h2 h3 h4; omega)
            simp only [liveS, goesS, hc]
            rw [show decide (unS x1 ≥ 16384) = false from h4]
            rfl
          rw [e]
          exact eng_two (C := ⟨consFix, fun _ => [], fun _ => false, factsL [(2, (decide (x0_1 > x0_0)), false), (3, (decide (x0_2 > x0_0)), false), (4, (decide (unS x0_0 < 16384)), true), (5, (decide (unS x1 ≥ Int.ofNat (16383 + 1))), false)]⟩) (factsL_cons h1 (factsL_cons h2 (factsL_cons h3 (factsL_cons h4 factsL_nil)))) (n := 30) (f := 82) (args := [.sv (.agg [.val false (.int .i64 x0_0), .val false (.int .i64 x0_1), .val false (.int .i64 x0_2)]), .sv (.one (.val false (.int .i64 x1)))]) rfl (by kernel_rfl) w
      | false =>
        cases h4 : (decide (unS x1 ≥ unS x0_0)) with
        | true =>
          have e : Value.tuple #[Value.agg #[Value.int .i64 (liveS x0_0 x0_0 x0_1 x0_2 x1), Value.int .i64 (liveS x0_1 x0_0 x0_1 x0_2 x1), Value.int .i64 (liveS x0_2 x0_0 x0_1 x0_2 x1)], Value.bool (!goesS x0_0 x0_1 x0_2 x1)] = Value.tuple #[Value.agg #[Value.int IntKind.i64 (Int.ofNat 0), Value.int IntKind.i64 (Int.ofNat 0), Value.int IntKind.i64 (Int.ofNat 0)], Value.bool (false)] := by
            have hm : mostS x0_0 x0_1 x0_2 = x0_0 := most_of (by simp at h1 h2 h3 h4; omega)
            have hc : chanceS (mostS x0_0 x0_1 x0_2) = unS x0_0 := chance_of hm (by simp at h1 h2 h3 h4; omega)
            simp only [liveS, goesS, hc]
            rw [show decide (unS x1 ≥ unS x0_0) = true from h4]
            rfl
          rw [e]
          exact eng_two (C := ⟨consFix, fun _ => [], fun _ => false, factsL [(2, (decide (x0_1 > x0_0)), false), (3, (decide (x0_2 > x0_0)), false), (4, (decide (unS x0_0 < 16384)), false), (5, (decide (unS x1 ≥ unS x0_0)), true)]⟩) (factsL_cons h1 (factsL_cons h2 (factsL_cons h3 (factsL_cons h4 factsL_nil)))) (n := 30) (f := 82) (args := [.sv (.agg [.val false (.int .i64 x0_0), .val false (.int .i64 x0_1), .val false (.int .i64 x0_2)]), .sv (.one (.val false (.int .i64 x1)))]) rfl (by kernel_rfl) w
        | false =>
          have e : Value.tuple #[Value.agg #[Value.int .i64 (liveS x0_0 x0_0 x0_1 x0_2 x1), Value.int .i64 (liveS x0_1 x0_0 x0_1 x0_2 x1), Value.int .i64 (liveS x0_2 x0_0 x0_1 x0_2 x1)], Value.bool (!goesS x0_0 x0_1 x0_2 x1)] = Value.tuple #[Value.agg #[Value.int IntKind.i64 (divS x0_0 (unS x0_0)), Value.int IntKind.i64 (divS x0_1 (unS x0_0)), Value.int IntKind.i64 (divS x0_2 (unS x0_0))], Value.bool (true)] := by
            have hm : mostS x0_0 x0_1 x0_2 = x0_0 := most_of (by simp at h1 h2 h3 h4; omega)
            have hc : chanceS (mostS x0_0 x0_1 x0_2) = unS x0_0 := chance_of hm (by simp at h1 h2 h3 h4; omega)
            simp only [liveS, goesS, hc]
            rw [show decide (unS x1 ≥ unS x0_0) = false from h4]
            rfl
          rw [e]
          exact eng_two (C := ⟨consFix, fun _ => [], fun _ => false, factsL [(2, (decide (x0_1 > x0_0)), false), (3, (decide (x0_2 > x0_0)), false), (4, (decide (unS x0_0 < 16384)), false), (5, (decide (unS x1 ≥ unS x0_0)), false)]⟩) (factsL_cons h1 (factsL_cons h2 (factsL_cons h3 (factsL_cons h4 factsL_nil)))) (n := 30) (f := 82) (args := [.sv (.agg [.val false (.int .i64 x0_0), .val false (.int .i64 x0_1), .val false (.int .i64 x0_2)]), .sv (.one (.val false (.int .i64 x1)))]) rfl (by kernel_rfl) w
def rlives_g : List Value → Option Value
  | [.agg ⟨[.int .i64 x0_0, .int .i64 x0_1, .int .i64 x0_2]⟩, .int .i64 x1] => some (Value.tuple #[Value.agg #[Value.int .i64 (liveS x0_0 x0_0 x0_1 x0_2 x1), Value.int .i64 (liveS x0_1 x0_0 x0_1 x0_2 x1), Value.int .i64 (liveS x0_2 x0_0 x0_1 x0_2 x1)], Value.bool (!goesS x0_0 x0_1 x0_2 x1)])
  | _ => none
def rlives_con : Con Try.prog := conV Try.prog 82 rlives_g fun vs V hV w => by
  unfold rlives_g at hV
  split at hV
  · cases hV; exact rlives_eng _ _ _ _ w
  · cases hV

theorem lives_bright {a b c u : Int} (h : goesS a b c u = true) (ha : 65536 ≤ a) (hu : u < 65536) : False := by
  simp only [goesS, decide_eq_true_eq] at h
  have hm : a ≤ mostS a b c := by unfold mostS; repeat' split
                                  all_goals omega
  have h1 : unS (mostS a b c) = 65536 := by unfold unS; repeat' split
                                            all_goals omega
  have h2 : chanceS (mostS a b c) = 65536 := by unfold chanceS; rw [h1]; rfl
  have h3 : unS u < 65536 := by unfold unS; repeat' split
                                all_goals omega
  omega

def consLives : List (Con Try.prog) := [
  lives_con,
  lives_con,
  rlives_con,
  rlives_con,
] ++ consDome
end Go.Proofs.Ytaikocplcblnkab
