/- Directions one long, any direction. No condition. -/
import Derived.Test.YtaikocplcblnkabEngWave
set_option linter.unusedVariables false
namespace Go.Proofs.Ytaikocplcblnkab
open Go.RowKit

def vunit_S0 (x0_0 : Int) (x0_1 : Int) (x0_2 : Int) : Int := (bif (rootS (addS (addS (addS 0 (mulS x0_0 x0_0)) (mulS x0_1 x0_1)) (mulS x0_2 x0_2)) == 0) then (Int.ofNat 0) else (divS x0_0 (rootS (addS (addS (addS 0 (mulS x0_0 x0_0)) (mulS x0_1 x0_1)) (mulS x0_2 x0_2)))))
def vunit_S1 (x0_0 : Int) (x0_1 : Int) (x0_2 : Int) : Int := (bif (rootS (addS (addS (addS 0 (mulS x0_0 x0_0)) (mulS x0_1 x0_1)) (mulS x0_2 x0_2)) == 0) then (Int.ofNat 0) else (divS x0_1 (rootS (addS (addS (addS 0 (mulS x0_0 x0_0)) (mulS x0_1 x0_1)) (mulS x0_2 x0_2)))))
def vunit_S2 (x0_0 : Int) (x0_1 : Int) (x0_2 : Int) : Int := (bif (rootS (addS (addS (addS 0 (mulS x0_0 x0_0)) (mulS x0_1 x0_1)) (mulS x0_2 x0_2)) == 0) then (Int.ofNat 0) else (divS x0_2 (rootS (addS (addS (addS 0 (mulS x0_0 x0_0)) (mulS x0_1 x0_1)) (mulS x0_2 x0_2)))))
theorem vunit_eng (x0_0 : Int) (x0_1 : Int) (x0_2 : Int) (w : World) :
    Calls Try.prog 147 #[.agg #[.int .i64 x0_0, .int .i64 x0_1, .int .i64 x0_2]] w fun e w' => e = .returned (Value.agg #[Value.int IntKind.i64 (vunit_S0 x0_0 x0_1 x0_2), Value.int IntKind.i64 (vunit_S1 x0_0 x0_1 x0_2), Value.int IntKind.i64 (vunit_S2 x0_0 x0_1 x0_2)]) ∧ Below w.heap.size w w' := by
  cases h1 : (rootS (addS (addS (addS 0 (mulS x0_0 x0_0)) (mulS x0_1 x0_1)) (mulS x0_2 x0_2)) == 0) with
  | true =>
    have e : Value.agg #[Value.int IntKind.i64 (vunit_S0 x0_0 x0_1 x0_2), Value.int IntKind.i64 (vunit_S1 x0_0 x0_1 x0_2), Value.int IntKind.i64 (vunit_S2 x0_0 x0_1 x0_2)] = Value.agg #[Value.int IntKind.i64 (Int.ofNat 0), Value.int IntKind.i64 (Int.ofNat 0), Value.int IntKind.i64 (Int.ofNat 0)] := by
      simp [vunit_S0, vunit_S1, vunit_S2, h1]
    rw [e]
    exact eng_two (C := ⟨consWave, fun _ => [], fun _ => false, factsL [(3, (rootS (addS (addS (addS 0 (mulS x0_0 x0_0)) (mulS x0_1 x0_1)) (mulS x0_2 x0_2)) == 0), true)]⟩) (factsL_ok (by simp [h1])) (n := 30) (f := 147) (args := [.sv (.agg [.val false (.int .i64 x0_0), .val false (.int .i64 x0_1), .val false (.int .i64 x0_2)])]) rfl (by kernel_rfl) w
  | false =>
    have e : Value.agg #[Value.int IntKind.i64 (vunit_S0 x0_0 x0_1 x0_2), Value.int IntKind.i64 (vunit_S1 x0_0 x0_1 x0_2), Value.int IntKind.i64 (vunit_S2 x0_0 x0_1 x0_2)] = Value.agg #[Value.int IntKind.i64 (divS x0_0 (rootS (addS (addS (addS 0 (mulS x0_0 x0_0)) (mulS x0_1 x0_1)) (mulS x0_2 x0_2)))), Value.int IntKind.i64 (divS x0_1 (rootS (addS (addS (addS 0 (mulS x0_0 x0_0)) (mulS x0_1 x0_1)) (mulS x0_2 x0_2)))), Value.int IntKind.i64 (divS x0_2 (rootS (addS (addS (addS 0 (mulS x0_0 x0_0)) (mulS x0_1 x0_1)) (mulS x0_2 x0_2))))] := by
      simp [vunit_S0, vunit_S1, vunit_S2, h1]
    rw [e]
    exact eng_two (C := ⟨consWave, fun _ => [], fun _ => false, factsL [(3, (rootS (addS (addS (addS 0 (mulS x0_0 x0_0)) (mulS x0_1 x0_1)) (mulS x0_2 x0_2)) == 0), false)]⟩) (factsL_ok (by simp [h1])) (n := 30) (f := 147) (args := [.sv (.agg [.val false (.int .i64 x0_0), .val false (.int .i64 x0_1), .val false (.int .i64 x0_2)])]) rfl (by kernel_rfl) w
def vunit_g : List Value → Option Value
  | [.agg ⟨[.int .i64 x0_0, .int .i64 x0_1, .int .i64 x0_2]⟩] => some (Value.agg #[Value.int IntKind.i64 (vunit_S0 x0_0 x0_1 x0_2), Value.int IntKind.i64 (vunit_S1 x0_0 x0_1 x0_2), Value.int IntKind.i64 (vunit_S2 x0_0 x0_1 x0_2)])
  | _ => none
def vunit_con : Con Try.prog := conV Try.prog 147 vunit_g fun vs V hV w => by
  unfold vunit_g at hV
  split at hV
  · cases hV; exact vunit_eng _ _ _ w
  · cases hV

theorem runit2_eng (x0_0 : Int) (x0_1 : Int) (x0_2 : Int) (w : World) :
    Calls Try.prog 151 #[.agg #[.int .i64 x0_0, .int .i64 x0_1, .int .i64 x0_2]] w fun e w' => e = .returned (Value.agg #[Value.int IntKind.i64 (vunit_S0 x0_0 x0_1 x0_2), Value.int IntKind.i64 (vunit_S1 x0_0 x0_1 x0_2), Value.int IntKind.i64 (vunit_S2 x0_0 x0_1 x0_2)]) ∧ Below w.heap.size w w' := by
  cases h1 : (rootS (addS (addS (addS 0 (mulS x0_0 x0_0)) (mulS x0_1 x0_1)) (mulS x0_2 x0_2)) == 0) with
  | true =>
    have e : Value.agg #[Value.int IntKind.i64 (vunit_S0 x0_0 x0_1 x0_2), Value.int IntKind.i64 (vunit_S1 x0_0 x0_1 x0_2), Value.int IntKind.i64 (vunit_S2 x0_0 x0_1 x0_2)] = Value.agg #[Value.int IntKind.i64 (Int.ofNat 0), Value.int IntKind.i64 (Int.ofNat 0), Value.int IntKind.i64 (Int.ofNat 0)] := by
      simp [vunit_S0, vunit_S1, vunit_S2, h1]
    rw [e]
    exact eng_two (C := ⟨consWave, fun _ => [], fun _ => false, factsL [(3, (rootS (addS (addS (addS 0 (mulS x0_0 x0_0)) (mulS x0_1 x0_1)) (mulS x0_2 x0_2)) == 0), true)]⟩) (factsL_ok (by simp [h1])) (n := 30) (f := 151) (args := [.sv (.agg [.val false (.int .i64 x0_0), .val false (.int .i64 x0_1), .val false (.int .i64 x0_2)])]) rfl (by kernel_rfl) w
  | false =>
    have e : Value.agg #[Value.int IntKind.i64 (vunit_S0 x0_0 x0_1 x0_2), Value.int IntKind.i64 (vunit_S1 x0_0 x0_1 x0_2), Value.int IntKind.i64 (vunit_S2 x0_0 x0_1 x0_2)] = Value.agg #[Value.int IntKind.i64 (divS x0_0 (rootS (addS (addS (addS 0 (mulS x0_0 x0_0)) (mulS x0_1 x0_1)) (mulS x0_2 x0_2)))), Value.int IntKind.i64 (divS x0_1 (rootS (addS (addS (addS 0 (mulS x0_0 x0_0)) (mulS x0_1 x0_1)) (mulS x0_2 x0_2)))), Value.int IntKind.i64 (divS x0_2 (rootS (addS (addS (addS 0 (mulS x0_0 x0_0)) (mulS x0_1 x0_1)) (mulS x0_2 x0_2))))] := by
      simp [vunit_S0, vunit_S1, vunit_S2, h1]
    rw [e]
    exact eng_two (C := ⟨consWave, fun _ => [], fun _ => false, factsL [(3, (rootS (addS (addS (addS 0 (mulS x0_0 x0_0)) (mulS x0_1 x0_1)) (mulS x0_2 x0_2)) == 0), false)]⟩) (factsL_ok (by simp [h1])) (n := 30) (f := 151) (args := [.sv (.agg [.val false (.int .i64 x0_0), .val false (.int .i64 x0_1), .val false (.int .i64 x0_2)])]) rfl (by kernel_rfl) w
def runit2_g : List Value → Option Value
  | [.agg ⟨[.int .i64 x0_0, .int .i64 x0_1, .int .i64 x0_2]⟩] => some (Value.agg #[Value.int IntKind.i64 (vunit_S0 x0_0 x0_1 x0_2), Value.int IntKind.i64 (vunit_S1 x0_0 x0_1 x0_2), Value.int IntKind.i64 (vunit_S2 x0_0 x0_1 x0_2)])
  | _ => none
def runit2_con : Con Try.prog := conV Try.prog 151 runit2_g fun vs V hV w => by
  unfold runit2_g at hV
  split at hV
  · cases hV; exact runit2_eng _ _ _ w
  · cases hV

def globe_S0 (x0 : Int) (x1 : Int) : Int := (mulS (rootS (subS 65536 (mulS (subS 65536 (IntKind.i64.wrap (2 * unS x0))) (subS 65536 (IntKind.i64.wrap (2 * unS x0)))))) (cosS x1))
def globe_S1 (x0 : Int) (x1 : Int) : Int := (mulS (rootS (subS 65536 (mulS (subS 65536 (IntKind.i64.wrap (2 * unS x0))) (subS 65536 (IntKind.i64.wrap (2 * unS x0)))))) (sinS x1))
def globe_S2 (x0 : Int) (x1 : Int) : Int := (subS 65536 (IntKind.i64.wrap (2 * unS x0)))
theorem globe_eng (x0 : Int) (x1 : Int) (w : World) :
    Calls Try.prog 169 #[.int .i64 x0, .int .i64 x1] w fun e w' => e = .returned (Value.agg #[Value.int IntKind.i64 (globe_S0 x0 x1), Value.int IntKind.i64 (globe_S1 x0 x1), Value.int IntKind.i64 (globe_S2 x0 x1)]) ∧ Below w.heap.size w w' := by
  have e : Value.agg #[Value.int IntKind.i64 (globe_S0 x0 x1), Value.int IntKind.i64 (globe_S1 x0 x1), Value.int IntKind.i64 (globe_S2 x0 x1)] = Value.agg #[Value.int IntKind.i64 (mulS (rootS (subS 65536 (mulS (subS 65536 (IntKind.i64.wrap (2 * unS x0))) (subS 65536 (IntKind.i64.wrap (2 * unS x0)))))) (cosS x1)), Value.int IntKind.i64 (mulS (rootS (subS 65536 (mulS (subS 65536 (IntKind.i64.wrap (2 * unS x0))) (subS 65536 (IntKind.i64.wrap (2 * unS x0)))))) (sinS x1)), Value.int IntKind.i64 (subS 65536 (IntKind.i64.wrap (2 * unS x0)))] := by
    rfl
  rw [e]
  exact eng_two (C := ⟨consWave, fun _ => [], fun _ => false, factsL []⟩) (factsL_ok (by simp [])) (n := 30) (f := 169) (args := [.sv (.one (.val false (.int .i64 x0))), .sv (.one (.val false (.int .i64 x1)))]) rfl (by kernel_rfl) w
def globe_g : List Value → Option Value
  | [.int .i64 x0, .int .i64 x1] => some (Value.agg #[Value.int IntKind.i64 (globe_S0 x0 x1), Value.int IntKind.i64 (globe_S1 x0 x1), Value.int IntKind.i64 (globe_S2 x0 x1)])
  | _ => none
def globe_con : Con Try.prog := conV Try.prog 169 globe_g fun vs V hV w => by
  unfold globe_g at hV
  split at hV
  · cases hV; exact globe_eng _ _ w
  · cases hV

theorem rz_as (x : Int) : IntKind.i64.wrap (65536 - IntKind.i64.wrap (2 * unS x)) = subS 65536 (IntKind.i64.wrap (2 * unS x)) := by
  have := unS_bd x
  rw [IntWalk.i64_in (2 * unS x) (by omega), IntWalk.i64_in _ (by omega)]
  unfold subS heldS
  repeat' split
  all_goals omega

def rglobe_S0 (x0 : Int) (x1 : Int) : Int := (mulS (rootS (subS 65536 (mulS (IntKind.i64.wrap (65536 - IntKind.i64.wrap (2 * unS x0))) (IntKind.i64.wrap (65536 - IntKind.i64.wrap (2 * unS x0)))))) (cosS x1))
def rglobe_S1 (x0 : Int) (x1 : Int) : Int := (mulS (rootS (subS 65536 (mulS (IntKind.i64.wrap (65536 - IntKind.i64.wrap (2 * unS x0))) (IntKind.i64.wrap (65536 - IntKind.i64.wrap (2 * unS x0)))))) (sinS x1))
def rglobe_S2 (x0 : Int) (x1 : Int) : Int := (IntKind.i64.wrap (65536 - IntKind.i64.wrap (2 * unS x0)))
theorem rglobe_eng (x0 : Int) (x1 : Int) (w : World) :
    Calls Try.prog 171 #[.int .i64 x0, .int .i64 x1] w fun e w' => e = .returned (Value.agg #[Value.int IntKind.i64 (rglobe_S0 x0 x1), Value.int IntKind.i64 (rglobe_S1 x0 x1), Value.int IntKind.i64 (rglobe_S2 x0 x1)]) ∧ Below w.heap.size w w' := by
  have e : Value.agg #[Value.int IntKind.i64 (rglobe_S0 x0 x1), Value.int IntKind.i64 (rglobe_S1 x0 x1), Value.int IntKind.i64 (rglobe_S2 x0 x1)] = Value.agg #[Value.int IntKind.i64 (mulS (rootS (subS 65536 (mulS (IntKind.i64.wrap (65536 - IntKind.i64.wrap (2 * unS x0))) (IntKind.i64.wrap (65536 - IntKind.i64.wrap (2 * unS x0)))))) (cosS x1)), Value.int IntKind.i64 (mulS (rootS (subS 65536 (mulS (IntKind.i64.wrap (65536 - IntKind.i64.wrap (2 * unS x0))) (IntKind.i64.wrap (65536 - IntKind.i64.wrap (2 * unS x0)))))) (sinS x1)), Value.int IntKind.i64 (IntKind.i64.wrap (65536 - IntKind.i64.wrap (2 * unS x0)))] := by
    rfl
  rw [e]
  exact eng_two (C := ⟨consWave, fun _ => [], fun _ => false, factsL []⟩) (factsL_ok (by simp [])) (n := 30) (f := 171) (args := [.sv (.one (.val false (.int .i64 x0))), .sv (.one (.val false (.int .i64 x1)))]) rfl (by kernel_rfl) w
theorem rglobe_S0_as (x0 : Int) (x1 : Int) : rglobe_S0 x0 x1 = globe_S0 x0 x1 := by
  unfold rglobe_S0 globe_S0; rw [rz_as]
theorem rglobe_S1_as (x0 : Int) (x1 : Int) : rglobe_S1 x0 x1 = globe_S1 x0 x1 := by
  unfold rglobe_S1 globe_S1; rw [rz_as]
theorem rglobe_S2_as (x0 : Int) (x1 : Int) : rglobe_S2 x0 x1 = globe_S2 x0 x1 := by
  unfold rglobe_S2 globe_S2; rw [rz_as]
theorem rglobe_eng2 (x0 : Int) (x1 : Int) (w : World) :
    Calls Try.prog 171 #[.int .i64 x0, .int .i64 x1] w fun e w' => e = .returned (Value.agg #[Value.int IntKind.i64 (globe_S0 x0 x1), Value.int IntKind.i64 (globe_S1 x0 x1), Value.int IntKind.i64 (globe_S2 x0 x1)]) ∧ Below w.heap.size w w' := by
  have h := rglobe_eng x0 x1 w
  rw [rglobe_S0_as, rglobe_S1_as, rglobe_S2_as] at h
  exact h
def rglobe_g : List Value → Option Value
  | [.int .i64 x0, .int .i64 x1] => some (Value.agg #[Value.int IntKind.i64 (globe_S0 x0 x1), Value.int IntKind.i64 (globe_S1 x0 x1), Value.int IntKind.i64 (globe_S2 x0 x1)])
  | _ => none
def rglobe_con : Con Try.prog := conV Try.prog 171 rglobe_g fun vs V hV w => by
  unfold rglobe_g at hV
  split at hV
  · cases hV; exact rglobe_eng2 _ _ w
  · cases hV

def mirrored_S0 (x0_0 : Int) (x0_1 : Int) (x0_2 : Int) (x1_0 : Int) (x1_1 : Int) (x1_2 : Int) : Int := (subS x0_0 (mulS x1_0 (mulS 131072 (addS (addS (addS 0 (mulS x0_0 x1_0)) (mulS x0_1 x1_1)) (mulS x0_2 x1_2)))))
def mirrored_S1 (x0_0 : Int) (x0_1 : Int) (x0_2 : Int) (x1_0 : Int) (x1_1 : Int) (x1_2 : Int) : Int := (subS x0_1 (mulS x1_1 (mulS 131072 (addS (addS (addS 0 (mulS x0_0 x1_0)) (mulS x0_1 x1_1)) (mulS x0_2 x1_2)))))
def mirrored_S2 (x0_0 : Int) (x0_1 : Int) (x0_2 : Int) (x1_0 : Int) (x1_1 : Int) (x1_2 : Int) : Int := (subS x0_2 (mulS x1_2 (mulS 131072 (addS (addS (addS 0 (mulS x0_0 x1_0)) (mulS x0_1 x1_1)) (mulS x0_2 x1_2)))))
theorem mirrored_eng (x0_0 : Int) (x0_1 : Int) (x0_2 : Int) (x1_0 : Int) (x1_1 : Int) (x1_2 : Int) (w : World) :
    Calls Try.prog 148 #[.agg #[.int .i64 x0_0, .int .i64 x0_1, .int .i64 x0_2], .agg #[.int .i64 x1_0, .int .i64 x1_1, .int .i64 x1_2]] w fun e w' => e = .returned (Value.agg #[Value.int IntKind.i64 (mirrored_S0 x0_0 x0_1 x0_2 x1_0 x1_1 x1_2), Value.int IntKind.i64 (mirrored_S1 x0_0 x0_1 x0_2 x1_0 x1_1 x1_2), Value.int IntKind.i64 (mirrored_S2 x0_0 x0_1 x0_2 x1_0 x1_1 x1_2)]) ∧ Below w.heap.size w w' := by
  have e : Value.agg #[Value.int IntKind.i64 (mirrored_S0 x0_0 x0_1 x0_2 x1_0 x1_1 x1_2), Value.int IntKind.i64 (mirrored_S1 x0_0 x0_1 x0_2 x1_0 x1_1 x1_2), Value.int IntKind.i64 (mirrored_S2 x0_0 x0_1 x0_2 x1_0 x1_1 x1_2)] = Value.agg #[Value.int IntKind.i64 (subS x0_0 (mulS x1_0 (mulS 131072 (addS (addS (addS 0 (mulS x0_0 x1_0)) (mulS x0_1 x1_1)) (mulS x0_2 x1_2))))), Value.int IntKind.i64 (subS x0_1 (mulS x1_1 (mulS 131072 (addS (addS (addS 0 (mulS x0_0 x1_0)) (mulS x0_1 x1_1)) (mulS x0_2 x1_2))))), Value.int IntKind.i64 (subS x0_2 (mulS x1_2 (mulS 131072 (addS (addS (addS 0 (mulS x0_0 x1_0)) (mulS x0_1 x1_1)) (mulS x0_2 x1_2)))))] := by
    rfl
  rw [e]
  exact eng_two (C := ⟨consWave, fun _ => [], fun _ => false, factsL []⟩) (factsL_ok (by simp [])) (n := 30) (f := 148) (args := [.sv (.agg [.val false (.int .i64 x0_0), .val false (.int .i64 x0_1), .val false (.int .i64 x0_2)]), .sv (.agg [.val false (.int .i64 x1_0), .val false (.int .i64 x1_1), .val false (.int .i64 x1_2)])]) rfl (by kernel_rfl) w
def mirrored_g : List Value → Option Value
  | [.agg ⟨[.int .i64 x0_0, .int .i64 x0_1, .int .i64 x0_2]⟩, .agg ⟨[.int .i64 x1_0, .int .i64 x1_1, .int .i64 x1_2]⟩] => some (Value.agg #[Value.int IntKind.i64 (mirrored_S0 x0_0 x0_1 x0_2 x1_0 x1_1 x1_2), Value.int IntKind.i64 (mirrored_S1 x0_0 x0_1 x0_2 x1_0 x1_1 x1_2), Value.int IntKind.i64 (mirrored_S2 x0_0 x0_1 x0_2 x1_0 x1_1 x1_2)])
  | _ => none
def mirrored_con : Con Try.prog := conV Try.prog 148 mirrored_g fun vs V hV w => by
  unfold mirrored_g at hV
  split at hV
  · cases hV; exact mirrored_eng _ _ _ _ _ _ w
  · cases hV

theorem rmirrored_eng (x0_0 : Int) (x0_1 : Int) (x0_2 : Int) (x1_0 : Int) (x1_1 : Int) (x1_2 : Int) (w : World) :
    Calls Try.prog 152 #[.agg #[.int .i64 x0_0, .int .i64 x0_1, .int .i64 x0_2], .agg #[.int .i64 x1_0, .int .i64 x1_1, .int .i64 x1_2]] w fun e w' => e = .returned (Value.agg #[Value.int IntKind.i64 (mirrored_S0 x0_0 x0_1 x0_2 x1_0 x1_1 x1_2), Value.int IntKind.i64 (mirrored_S1 x0_0 x0_1 x0_2 x1_0 x1_1 x1_2), Value.int IntKind.i64 (mirrored_S2 x0_0 x0_1 x0_2 x1_0 x1_1 x1_2)]) ∧ Below w.heap.size w w' := by
  have e : Value.agg #[Value.int IntKind.i64 (mirrored_S0 x0_0 x0_1 x0_2 x1_0 x1_1 x1_2), Value.int IntKind.i64 (mirrored_S1 x0_0 x0_1 x0_2 x1_0 x1_1 x1_2), Value.int IntKind.i64 (mirrored_S2 x0_0 x0_1 x0_2 x1_0 x1_1 x1_2)] = Value.agg #[Value.int IntKind.i64 (subS x0_0 (mulS x1_0 (mulS 131072 (addS (addS (addS 0 (mulS x0_0 x1_0)) (mulS x0_1 x1_1)) (mulS x0_2 x1_2))))), Value.int IntKind.i64 (subS x0_1 (mulS x1_1 (mulS 131072 (addS (addS (addS 0 (mulS x0_0 x1_0)) (mulS x0_1 x1_1)) (mulS x0_2 x1_2))))), Value.int IntKind.i64 (subS x0_2 (mulS x1_2 (mulS 131072 (addS (addS (addS 0 (mulS x0_0 x1_0)) (mulS x0_1 x1_1)) (mulS x0_2 x1_2)))))] := by
    rfl
  rw [e]
  exact eng_two (C := ⟨consWave, fun _ => [], fun _ => false, factsL []⟩) (factsL_ok (by simp [])) (n := 30) (f := 152) (args := [.sv (.agg [.val false (.int .i64 x0_0), .val false (.int .i64 x0_1), .val false (.int .i64 x0_2)]), .sv (.agg [.val false (.int .i64 x1_0), .val false (.int .i64 x1_1), .val false (.int .i64 x1_2)])]) rfl (by kernel_rfl) w
def rmirrored_g : List Value → Option Value
  | [.agg ⟨[.int .i64 x0_0, .int .i64 x0_1, .int .i64 x0_2]⟩, .agg ⟨[.int .i64 x1_0, .int .i64 x1_1, .int .i64 x1_2]⟩] => some (Value.agg #[Value.int IntKind.i64 (mirrored_S0 x0_0 x0_1 x0_2 x1_0 x1_1 x1_2), Value.int IntKind.i64 (mirrored_S1 x0_0 x0_1 x0_2 x1_0 x1_1 x1_2), Value.int IntKind.i64 (mirrored_S2 x0_0 x0_1 x0_2 x1_0 x1_1 x1_2)])
  | _ => none
def rmirrored_con : Con Try.prog := conV Try.prog 152 rmirrored_g fun vs V hV w => by
  unfold rmirrored_g at hV
  split at hV
  · cases hV; exact rmirrored_eng _ _ _ _ _ _ w
  · cases hV

def consUnit : List (Con Try.prog) := [
  vunit_con,
  vunit_con,
  runit2_con,
  runit2_con,
  globe_con,
  globe_con,
  rglobe_con,
  rglobe_con,
  mirrored_con,
  mirrored_con,
  rmirrored_con,
  rmirrored_con,
] ++ consWave
end Go.Proofs.Ytaikocplcblnkab
