/- What the functions of layer 2 on points compute. No condition. -/
import Derived.Test.YtpfaejbdbdjhhaaEngFix
set_option linter.unusedVariables false
namespace Go.Proofs.Ytpfaejbdbdjhhaa
open Go.RowKit

theorem toE_eng (x0_0 x0_1 x0_2 : Int) (w : World) :
    Calls Try.prog 42 #[.agg #[.int .i64 x0_0, .int .i64 x0_1, .int .i64 x0_2]] w fun e w' => e = .returned (.agg #[.int .i64 (x0_0), .int .i64 (x0_1), .int .i64 (x0_2)]) ∧ Below w.heap.size w w' :=
  eng_two (C := ⟨consFix, fun _ _ _ => none, fun _ => false, noFacts, fun _ => 0⟩) noFacts_ok (n := 20) (f := 42) (args := [.sv (.agg [.val false (.int .i64 x0_0), .val false (.int .i64 x0_1), .val false (.int .i64 x0_2)])]) (V := .agg #[.int .i64 (x0_0), .int .i64 (x0_1), .int .i64 (x0_2)]) rfl (by kernel_rfl) w
def toE_g : List Value → Option Value
  | [.agg ⟨[.int .i64 x0_0, .int .i64 x0_1, .int .i64 x0_2]⟩] => some (.agg #[.int .i64 (x0_0), .int .i64 (x0_1), .int .i64 (x0_2)])
  | _ => none
def toE_con : Con Try.prog := conV Try.prog 42 toE_g fun vs V hV w => by
  unfold toE_g at hV
  split at hV
  · cases hV; exact toE_eng _ _ _ w
  · cases hV

theorem fromE_eng (x0_0 x0_1 x0_2 : Int) (w : World) :
    Calls Try.prog 29 #[.agg #[.int .i64 x0_0, .int .i64 x0_1, .int .i64 x0_2]] w fun e w' => e = .returned (.agg #[.int .i64 (x0_0), .int .i64 (x0_1), .int .i64 (x0_2)]) ∧ Below w.heap.size w w' :=
  eng_two (C := ⟨consFix, fun _ _ _ => none, fun _ => false, noFacts, fun _ => 0⟩) noFacts_ok (n := 20) (f := 29) (args := [.sv (.agg [.val false (.int .i64 x0_0), .val false (.int .i64 x0_1), .val false (.int .i64 x0_2)])]) (V := .agg #[.int .i64 (x0_0), .int .i64 (x0_1), .int .i64 (x0_2)]) rfl (by kernel_rfl) w
def fromE_g : List Value → Option Value
  | [.agg ⟨[.int .i64 x0_0, .int .i64 x0_1, .int .i64 x0_2]⟩] => some (.agg #[.int .i64 (x0_0), .int .i64 (x0_1), .int .i64 (x0_2)])
  | _ => none
def fromE_con : Con Try.prog := conV Try.prog 29 fromE_g fun vs V hV w => by
  unfold fromE_g at hV
  split at hV
  · cases hV; exact fromE_eng _ _ _ w
  · cases hV




theorem vsubE_eng (x0_0 x0_1 x0_2 x1_0 x1_1 x1_2 : Int) (w : World) :
    Calls Try.prog 56 #[.agg #[.int .i64 x0_0, .int .i64 x0_1, .int .i64 x0_2], .agg #[.int .i64 x1_0, .int .i64 x1_1, .int .i64 x1_2]] w fun e w' => e = .returned (.agg #[.int .i64 (subS x0_0 x1_0), .int .i64 (subS x0_1 x1_1), .int .i64 (subS x0_2 x1_2)]) ∧ Below w.heap.size w w' :=
  eng_two (C := ⟨consFix, fun _ _ _ => none, fun _ => false, noFacts, fun _ => 0⟩) noFacts_ok (n := 20) (f := 56) (args := [.sv (.agg [.val false (.int .i64 x0_0), .val false (.int .i64 x0_1), .val false (.int .i64 x0_2)]), .sv (.agg [.val false (.int .i64 x1_0), .val false (.int .i64 x1_1), .val false (.int .i64 x1_2)])]) (V := .agg #[.int .i64 (subS x0_0 x1_0), .int .i64 (subS x0_1 x1_1), .int .i64 (subS x0_2 x1_2)]) rfl (by kernel_rfl) w
def vsubE_g : List Value → Option Value
  | [.agg ⟨[.int .i64 x0_0, .int .i64 x0_1, .int .i64 x0_2]⟩, .agg ⟨[.int .i64 x1_0, .int .i64 x1_1, .int .i64 x1_2]⟩] => some (.agg #[.int .i64 (subS x0_0 x1_0), .int .i64 (subS x0_1 x1_1), .int .i64 (subS x0_2 x1_2)])
  | _ => none
def vsubE_con : Con Try.prog := conV Try.prog 56 vsubE_g fun vs V hV w => by
  unfold vsubE_g at hV
  split at hV
  · cases hV; exact vsubE_eng _ _ _ _ _ _ w
  · cases hV

theorem rsubE_eng (x0_0 x0_1 x0_2 x1_0 x1_1 x1_2 : Int) (w : World) :
    Calls Try.prog 46 #[.agg #[.int .i64 x0_0, .int .i64 x0_1, .int .i64 x0_2], .agg #[.int .i64 x1_0, .int .i64 x1_1, .int .i64 x1_2]] w fun e w' => e = .returned (.agg #[.int .i64 (subS x0_0 x1_0), .int .i64 (subS x0_1 x1_1), .int .i64 (subS x0_2 x1_2)]) ∧ Below w.heap.size w w' :=
  eng_two (C := ⟨consFix, fun _ _ _ => none, fun _ => false, noFacts, fun _ => 0⟩) noFacts_ok (n := 20) (f := 46) (args := [.sv (.agg [.val false (.int .i64 x0_0), .val false (.int .i64 x0_1), .val false (.int .i64 x0_2)]), .sv (.agg [.val false (.int .i64 x1_0), .val false (.int .i64 x1_1), .val false (.int .i64 x1_2)])]) (V := .agg #[.int .i64 (subS x0_0 x1_0), .int .i64 (subS x0_1 x1_1), .int .i64 (subS x0_2 x1_2)]) rfl (by kernel_rfl) w
def rsubE_g : List Value → Option Value
  | [.agg ⟨[.int .i64 x0_0, .int .i64 x0_1, .int .i64 x0_2]⟩, .agg ⟨[.int .i64 x1_0, .int .i64 x1_1, .int .i64 x1_2]⟩] => some (.agg #[.int .i64 (subS x0_0 x1_0), .int .i64 (subS x0_1 x1_1), .int .i64 (subS x0_2 x1_2)])
  | _ => none
def rsubE_con : Con Try.prog := conV Try.prog 46 rsubE_g fun vs V hV w => by
  unfold rsubE_g at hV
  split at hV
  · cases hV; exact rsubE_eng _ _ _ _ _ _ w
  · cases hV



theorem vmixE_eng (x0_0 x0_1 x0_2 x1_0 x1_1 x1_2 x2 : Int) (w : World) :
    Calls Try.prog 23 #[.agg #[.int .i64 x0_0, .int .i64 x0_1, .int .i64 x0_2], .agg #[.int .i64 x1_0, .int .i64 x1_1, .int .i64 x1_2], .int .i64 x2] w fun e w' => e = .returned (.agg #[.int .i64 (lerpS x0_0 x1_0 x2), .int .i64 (lerpS x0_1 x1_1 x2), .int .i64 (lerpS x0_2 x1_2 x2)]) ∧ Below w.heap.size w w' :=
  eng_two (C := ⟨consFix, fun _ _ _ => none, fun _ => false, noFacts, fun _ => 0⟩) noFacts_ok (n := 20) (f := 23) (args := [.sv (.agg [.val false (.int .i64 x0_0), .val false (.int .i64 x0_1), .val false (.int .i64 x0_2)]), .sv (.agg [.val false (.int .i64 x1_0), .val false (.int .i64 x1_1), .val false (.int .i64 x1_2)]), .sv (.one (.val false (.int .i64 x2)))]) (V := .agg #[.int .i64 (lerpS x0_0 x1_0 x2), .int .i64 (lerpS x0_1 x1_1 x2), .int .i64 (lerpS x0_2 x1_2 x2)]) rfl (by kernel_rfl) w
def vmixE_g : List Value → Option Value
  | [.agg ⟨[.int .i64 x0_0, .int .i64 x0_1, .int .i64 x0_2]⟩, .agg ⟨[.int .i64 x1_0, .int .i64 x1_1, .int .i64 x1_2]⟩, .int .i64 x2] => some (.agg #[.int .i64 (lerpS x0_0 x1_0 x2), .int .i64 (lerpS x0_1 x1_1 x2), .int .i64 (lerpS x0_2 x1_2 x2)])
  | _ => none
def vmixE_con : Con Try.prog := conV Try.prog 23 vmixE_g fun vs V hV w => by
  unfold vmixE_g at hV
  split at hV
  · cases hV; exact vmixE_eng _ _ _ _ _ _ _ w
  · cases hV

theorem rmixE_eng (x0_0 x0_1 x0_2 x1_0 x1_1 x1_2 x2 : Int) (w : World) :
    Calls Try.prog 64 #[.agg #[.int .i64 x0_0, .int .i64 x0_1, .int .i64 x0_2], .agg #[.int .i64 x1_0, .int .i64 x1_1, .int .i64 x1_2], .int .i64 x2] w fun e w' => e = .returned (.agg #[.int .i64 (lerpS x0_0 x1_0 x2), .int .i64 (lerpS x0_1 x1_1 x2), .int .i64 (lerpS x0_2 x1_2 x2)]) ∧ Below w.heap.size w w' :=
  eng_two (C := ⟨consFix, fun _ _ _ => none, fun _ => false, noFacts, fun _ => 0⟩) noFacts_ok (n := 20) (f := 64) (args := [.sv (.agg [.val false (.int .i64 x0_0), .val false (.int .i64 x0_1), .val false (.int .i64 x0_2)]), .sv (.agg [.val false (.int .i64 x1_0), .val false (.int .i64 x1_1), .val false (.int .i64 x1_2)]), .sv (.one (.val false (.int .i64 x2)))]) (V := .agg #[.int .i64 (lerpS x0_0 x1_0 x2), .int .i64 (lerpS x0_1 x1_1 x2), .int .i64 (lerpS x0_2 x1_2 x2)]) rfl (by kernel_rfl) w
def rmixE_g : List Value → Option Value
  | [.agg ⟨[.int .i64 x0_0, .int .i64 x0_1, .int .i64 x0_2]⟩, .agg ⟨[.int .i64 x1_0, .int .i64 x1_1, .int .i64 x1_2]⟩, .int .i64 x2] => some (.agg #[.int .i64 (lerpS x0_0 x1_0 x2), .int .i64 (lerpS x0_1 x1_1 x2), .int .i64 (lerpS x0_2 x1_2 x2)])
  | _ => none
def rmixE_con : Con Try.prog := conV Try.prog 64 rmixE_g fun vs V hV w => by
  unfold rmixE_g at hV
  split at hV
  · cases hV; exact rmixE_eng _ _ _ _ _ _ _ w
  · cases hV





def consVec : List (Con Try.prog) := [
  toE_con,
  fromE_con,
  vsubE_con,
  rsubE_con,
  vmixE_con,
  rmixE_con,
] ++ consFix
end Go.Proofs.Ytpfaejbdbdjhhaa
