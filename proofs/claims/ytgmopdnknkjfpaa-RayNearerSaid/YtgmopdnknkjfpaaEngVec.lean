/- What the functions of layer 2 on points compute. No condition. -/
import Derived.Test.YtgmopdnknkjfpaaEngFix
set_option linter.unusedVariables false
namespace Go.Proofs.Ytgmopdnknkjfpaa
open Go.RowKit

theorem toE_eng (x0_0 : Int) (x0_1 : Int) (x0_2 : Int) (w : World) :
    Calls Try.prog 15 #[.agg #[.int .i64 x0_0, .int .i64 x0_1, .int .i64 x0_2]] w fun e w' => e = .returned (.agg #[.int .i64 (x0_0), .int .i64 (x0_1), .int .i64 (x0_2)]) ∧ Below w.heap.size w w' :=
  eng_two (C := ⟨consFix, fun _ _ _ => none, fun _ => false, noFacts, fun _ => 0⟩) noFacts_ok (n := 20) (f := 15) (args := [.sv (.agg [.val false (.int .i64 x0_0), .val false (.int .i64 x0_1), .val false (.int .i64 x0_2)])]) (V := .agg #[.int .i64 (x0_0), .int .i64 (x0_1), .int .i64 (x0_2)]) rfl (by kernel_rfl) w
def toE_g : List Value → Option Value
  | [.agg ⟨[.int .i64 x0_0, .int .i64 x0_1, .int .i64 x0_2]⟩] => some (.agg #[.int .i64 (x0_0), .int .i64 (x0_1), .int .i64 (x0_2)])
  | _ => none
def toE_con : Con Try.prog := conV Try.prog 15 toE_g fun vs V hV w => by
  unfold toE_g at hV
  split at hV
  · cases hV; exact toE_eng _ _ _ w
  · cases hV

theorem fromE_eng (x0_0 : Int) (x0_1 : Int) (x0_2 : Int) (w : World) :
    Calls Try.prog 8 #[.agg #[.int .i64 x0_0, .int .i64 x0_1, .int .i64 x0_2]] w fun e w' => e = .returned (.agg #[.int .i64 (x0_0), .int .i64 (x0_1), .int .i64 (x0_2)]) ∧ Below w.heap.size w w' :=
  eng_two (C := ⟨consFix, fun _ _ _ => none, fun _ => false, noFacts, fun _ => 0⟩) noFacts_ok (n := 20) (f := 8) (args := [.sv (.agg [.val false (.int .i64 x0_0), .val false (.int .i64 x0_1), .val false (.int .i64 x0_2)])]) (V := .agg #[.int .i64 (x0_0), .int .i64 (x0_1), .int .i64 (x0_2)]) rfl (by kernel_rfl) w
def fromE_g : List Value → Option Value
  | [.agg ⟨[.int .i64 x0_0, .int .i64 x0_1, .int .i64 x0_2]⟩] => some (.agg #[.int .i64 (x0_0), .int .i64 (x0_1), .int .i64 (x0_2)])
  | _ => none
def fromE_con : Con Try.prog := conV Try.prog 8 fromE_g fun vs V hV w => by
  unfold fromE_g at hV
  split at hV
  · cases hV; exact fromE_eng _ _ _ w
  · cases hV

theorem vnewE_eng (x0 : Int) (x1 : Int) (x2 : Int) (w : World) :
    Calls Try.prog 63 #[.int .i64 x0, .int .i64 x1, .int .i64 x2] w fun e w' => e = .returned (.agg #[.int .i64 (x0), .int .i64 (x1), .int .i64 (x2)]) ∧ Below w.heap.size w w' :=
  eng_two (C := ⟨consFix, fun _ _ _ => none, fun _ => false, noFacts, fun _ => 0⟩) noFacts_ok (n := 20) (f := 63) (args := [.sv (.one (.val false (.int .i64 x0))), .sv (.one (.val false (.int .i64 x1))), .sv (.one (.val false (.int .i64 x2)))]) (V := .agg #[.int .i64 (x0), .int .i64 (x1), .int .i64 (x2)]) rfl (by kernel_rfl) w
def vnewE_g : List Value → Option Value
  | [.int .i64 x0, .int .i64 x1, .int .i64 x2] => some (.agg #[.int .i64 (x0), .int .i64 (x1), .int .i64 (x2)])
  | _ => none
def vnewE_con : Con Try.prog := conV Try.prog 63 vnewE_g fun vs V hV w => by
  unfold vnewE_g at hV
  split at hV
  · cases hV; exact vnewE_eng _ _ _ w
  · cases hV

theorem vaddE_eng (x0_0 : Int) (x0_1 : Int) (x0_2 : Int) (x1_0 : Int) (x1_1 : Int) (x1_2 : Int) (w : World) :
    Calls Try.prog 25 #[.agg #[.int .i64 x0_0, .int .i64 x0_1, .int .i64 x0_2], .agg #[.int .i64 x1_0, .int .i64 x1_1, .int .i64 x1_2]] w fun e w' => e = .returned (.agg #[.int .i64 (addS x0_0 x1_0), .int .i64 (addS x0_1 x1_1), .int .i64 (addS x0_2 x1_2)]) ∧ Below w.heap.size w w' :=
  eng_two (C := ⟨consFix, fun _ _ _ => none, fun _ => false, noFacts, fun _ => 0⟩) noFacts_ok (n := 20) (f := 25) (args := [.sv (.agg [.val false (.int .i64 x0_0), .val false (.int .i64 x0_1), .val false (.int .i64 x0_2)]), .sv (.agg [.val false (.int .i64 x1_0), .val false (.int .i64 x1_1), .val false (.int .i64 x1_2)])]) (V := .agg #[.int .i64 (addS x0_0 x1_0), .int .i64 (addS x0_1 x1_1), .int .i64 (addS x0_2 x1_2)]) rfl (by kernel_rfl) w
def vaddE_g : List Value → Option Value
  | [.agg ⟨[.int .i64 x0_0, .int .i64 x0_1, .int .i64 x0_2]⟩, .agg ⟨[.int .i64 x1_0, .int .i64 x1_1, .int .i64 x1_2]⟩] => some (.agg #[.int .i64 (addS x0_0 x1_0), .int .i64 (addS x0_1 x1_1), .int .i64 (addS x0_2 x1_2)])
  | _ => none
def vaddE_con : Con Try.prog := conV Try.prog 25 vaddE_g fun vs V hV w => by
  unfold vaddE_g at hV
  split at hV
  · cases hV; exact vaddE_eng _ _ _ _ _ _ w
  · cases hV

theorem raddE_eng (x0_0 : Int) (x0_1 : Int) (x0_2 : Int) (x1_0 : Int) (x1_1 : Int) (x1_2 : Int) (w : World) :
    Calls Try.prog 27 #[.agg #[.int .i64 x0_0, .int .i64 x0_1, .int .i64 x0_2], .agg #[.int .i64 x1_0, .int .i64 x1_1, .int .i64 x1_2]] w fun e w' => e = .returned (.agg #[.int .i64 (addS x0_0 x1_0), .int .i64 (addS x0_1 x1_1), .int .i64 (addS x0_2 x1_2)]) ∧ Below w.heap.size w w' :=
  eng_two (C := ⟨consFix, fun _ _ _ => none, fun _ => false, noFacts, fun _ => 0⟩) noFacts_ok (n := 20) (f := 27) (args := [.sv (.agg [.val false (.int .i64 x0_0), .val false (.int .i64 x0_1), .val false (.int .i64 x0_2)]), .sv (.agg [.val false (.int .i64 x1_0), .val false (.int .i64 x1_1), .val false (.int .i64 x1_2)])]) (V := .agg #[.int .i64 (addS x0_0 x1_0), .int .i64 (addS x0_1 x1_1), .int .i64 (addS x0_2 x1_2)]) rfl (by kernel_rfl) w
def raddE_g : List Value → Option Value
  | [.agg ⟨[.int .i64 x0_0, .int .i64 x0_1, .int .i64 x0_2]⟩, .agg ⟨[.int .i64 x1_0, .int .i64 x1_1, .int .i64 x1_2]⟩] => some (.agg #[.int .i64 (addS x0_0 x1_0), .int .i64 (addS x0_1 x1_1), .int .i64 (addS x0_2 x1_2)])
  | _ => none
def raddE_con : Con Try.prog := conV Try.prog 27 raddE_g fun vs V hV w => by
  unfold raddE_g at hV
  split at hV
  · cases hV; exact raddE_eng _ _ _ _ _ _ w
  · cases hV

theorem vsubE_eng (x0_0 : Int) (x0_1 : Int) (x0_2 : Int) (x1_0 : Int) (x1_1 : Int) (x1_2 : Int) (w : World) :
    Calls Try.prog 31 #[.agg #[.int .i64 x0_0, .int .i64 x0_1, .int .i64 x0_2], .agg #[.int .i64 x1_0, .int .i64 x1_1, .int .i64 x1_2]] w fun e w' => e = .returned (.agg #[.int .i64 (subS x0_0 x1_0), .int .i64 (subS x0_1 x1_1), .int .i64 (subS x0_2 x1_2)]) ∧ Below w.heap.size w w' :=
  eng_two (C := ⟨consFix, fun _ _ _ => none, fun _ => false, noFacts, fun _ => 0⟩) noFacts_ok (n := 20) (f := 31) (args := [.sv (.agg [.val false (.int .i64 x0_0), .val false (.int .i64 x0_1), .val false (.int .i64 x0_2)]), .sv (.agg [.val false (.int .i64 x1_0), .val false (.int .i64 x1_1), .val false (.int .i64 x1_2)])]) (V := .agg #[.int .i64 (subS x0_0 x1_0), .int .i64 (subS x0_1 x1_1), .int .i64 (subS x0_2 x1_2)]) rfl (by kernel_rfl) w
def vsubE_g : List Value → Option Value
  | [.agg ⟨[.int .i64 x0_0, .int .i64 x0_1, .int .i64 x0_2]⟩, .agg ⟨[.int .i64 x1_0, .int .i64 x1_1, .int .i64 x1_2]⟩] => some (.agg #[.int .i64 (subS x0_0 x1_0), .int .i64 (subS x0_1 x1_1), .int .i64 (subS x0_2 x1_2)])
  | _ => none
def vsubE_con : Con Try.prog := conV Try.prog 31 vsubE_g fun vs V hV w => by
  unfold vsubE_g at hV
  split at hV
  · cases hV; exact vsubE_eng _ _ _ _ _ _ w
  · cases hV

theorem rsubE_eng (x0_0 : Int) (x0_1 : Int) (x0_2 : Int) (x1_0 : Int) (x1_1 : Int) (x1_2 : Int) (w : World) :
    Calls Try.prog 34 #[.agg #[.int .i64 x0_0, .int .i64 x0_1, .int .i64 x0_2], .agg #[.int .i64 x1_0, .int .i64 x1_1, .int .i64 x1_2]] w fun e w' => e = .returned (.agg #[.int .i64 (subS x0_0 x1_0), .int .i64 (subS x0_1 x1_1), .int .i64 (subS x0_2 x1_2)]) ∧ Below w.heap.size w w' :=
  eng_two (C := ⟨consFix, fun _ _ _ => none, fun _ => false, noFacts, fun _ => 0⟩) noFacts_ok (n := 20) (f := 34) (args := [.sv (.agg [.val false (.int .i64 x0_0), .val false (.int .i64 x0_1), .val false (.int .i64 x0_2)]), .sv (.agg [.val false (.int .i64 x1_0), .val false (.int .i64 x1_1), .val false (.int .i64 x1_2)])]) (V := .agg #[.int .i64 (subS x0_0 x1_0), .int .i64 (subS x0_1 x1_1), .int .i64 (subS x0_2 x1_2)]) rfl (by kernel_rfl) w
def rsubE_g : List Value → Option Value
  | [.agg ⟨[.int .i64 x0_0, .int .i64 x0_1, .int .i64 x0_2]⟩, .agg ⟨[.int .i64 x1_0, .int .i64 x1_1, .int .i64 x1_2]⟩] => some (.agg #[.int .i64 (subS x0_0 x1_0), .int .i64 (subS x0_1 x1_1), .int .i64 (subS x0_2 x1_2)])
  | _ => none
def rsubE_con : Con Try.prog := conV Try.prog 34 rsubE_g fun vs V hV w => by
  unfold rsubE_g at hV
  split at hV
  · cases hV; exact rsubE_eng _ _ _ _ _ _ w
  · cases hV

theorem vscaleE_eng (x0_0 : Int) (x0_1 : Int) (x0_2 : Int) (x1 : Int) (w : World) :
    Calls Try.prog 26 #[.agg #[.int .i64 x0_0, .int .i64 x0_1, .int .i64 x0_2], .int .i64 x1] w fun e w' => e = .returned (.agg #[.int .i64 (mulS x0_0 x1), .int .i64 (mulS x0_1 x1), .int .i64 (mulS x0_2 x1)]) ∧ Below w.heap.size w w' :=
  eng_two (C := ⟨consFix, fun _ _ _ => none, fun _ => false, noFacts, fun _ => 0⟩) noFacts_ok (n := 20) (f := 26) (args := [.sv (.agg [.val false (.int .i64 x0_0), .val false (.int .i64 x0_1), .val false (.int .i64 x0_2)]), .sv (.one (.val false (.int .i64 x1)))]) (V := .agg #[.int .i64 (mulS x0_0 x1), .int .i64 (mulS x0_1 x1), .int .i64 (mulS x0_2 x1)]) rfl (by kernel_rfl) w
def vscaleE_g : List Value → Option Value
  | [.agg ⟨[.int .i64 x0_0, .int .i64 x0_1, .int .i64 x0_2]⟩, .int .i64 x1] => some (.agg #[.int .i64 (mulS x0_0 x1), .int .i64 (mulS x0_1 x1), .int .i64 (mulS x0_2 x1)])
  | _ => none
def vscaleE_con : Con Try.prog := conV Try.prog 26 vscaleE_g fun vs V hV w => by
  unfold vscaleE_g at hV
  split at hV
  · cases hV; exact vscaleE_eng _ _ _ _ w
  · cases hV

theorem rscaleE_eng (x0_0 : Int) (x0_1 : Int) (x0_2 : Int) (x1 : Int) (w : World) :
    Calls Try.prog 28 #[.agg #[.int .i64 x0_0, .int .i64 x0_1, .int .i64 x0_2], .int .i64 x1] w fun e w' => e = .returned (.agg #[.int .i64 (mulS x0_0 x1), .int .i64 (mulS x0_1 x1), .int .i64 (mulS x0_2 x1)]) ∧ Below w.heap.size w w' :=
  eng_two (C := ⟨consFix, fun _ _ _ => none, fun _ => false, noFacts, fun _ => 0⟩) noFacts_ok (n := 20) (f := 28) (args := [.sv (.agg [.val false (.int .i64 x0_0), .val false (.int .i64 x0_1), .val false (.int .i64 x0_2)]), .sv (.one (.val false (.int .i64 x1)))]) (V := .agg #[.int .i64 (mulS x0_0 x1), .int .i64 (mulS x0_1 x1), .int .i64 (mulS x0_2 x1)]) rfl (by kernel_rfl) w
def rscaleE_g : List Value → Option Value
  | [.agg ⟨[.int .i64 x0_0, .int .i64 x0_1, .int .i64 x0_2]⟩, .int .i64 x1] => some (.agg #[.int .i64 (mulS x0_0 x1), .int .i64 (mulS x0_1 x1), .int .i64 (mulS x0_2 x1)])
  | _ => none
def rscaleE_con : Con Try.prog := conV Try.prog 28 rscaleE_g fun vs V hV w => by
  unfold rscaleE_g at hV
  split at hV
  · cases hV; exact rscaleE_eng _ _ _ _ w
  · cases hV

theorem vmixE_eng (x0_0 : Int) (x0_1 : Int) (x0_2 : Int) (x1_0 : Int) (x1_1 : Int) (x1_2 : Int) (x2 : Int) (w : World) :
    Calls Try.prog 43 #[.agg #[.int .i64 x0_0, .int .i64 x0_1, .int .i64 x0_2], .agg #[.int .i64 x1_0, .int .i64 x1_1, .int .i64 x1_2], .int .i64 x2] w fun e w' => e = .returned (.agg #[.int .i64 (lerpS x0_0 x1_0 x2), .int .i64 (lerpS x0_1 x1_1 x2), .int .i64 (lerpS x0_2 x1_2 x2)]) ∧ Below w.heap.size w w' :=
  eng_two (C := ⟨consFix, fun _ _ _ => none, fun _ => false, noFacts, fun _ => 0⟩) noFacts_ok (n := 20) (f := 43) (args := [.sv (.agg [.val false (.int .i64 x0_0), .val false (.int .i64 x0_1), .val false (.int .i64 x0_2)]), .sv (.agg [.val false (.int .i64 x1_0), .val false (.int .i64 x1_1), .val false (.int .i64 x1_2)]), .sv (.one (.val false (.int .i64 x2)))]) (V := .agg #[.int .i64 (lerpS x0_0 x1_0 x2), .int .i64 (lerpS x0_1 x1_1 x2), .int .i64 (lerpS x0_2 x1_2 x2)]) rfl (by kernel_rfl) w
def vmixE_g : List Value → Option Value
  | [.agg ⟨[.int .i64 x0_0, .int .i64 x0_1, .int .i64 x0_2]⟩, .agg ⟨[.int .i64 x1_0, .int .i64 x1_1, .int .i64 x1_2]⟩, .int .i64 x2] => some (.agg #[.int .i64 (lerpS x0_0 x1_0 x2), .int .i64 (lerpS x0_1 x1_1 x2), .int .i64 (lerpS x0_2 x1_2 x2)])
  | _ => none
def vmixE_con : Con Try.prog := conV Try.prog 43 vmixE_g fun vs V hV w => by
  unfold vmixE_g at hV
  split at hV
  · cases hV; exact vmixE_eng _ _ _ _ _ _ _ w
  · cases hV


theorem vdotE_eng (x0_0 : Int) (x0_1 : Int) (x0_2 : Int) (x1_0 : Int) (x1_1 : Int) (x1_2 : Int) (w : World) :
    Calls Try.prog 33 #[.agg #[.int .i64 x0_0, .int .i64 x0_1, .int .i64 x0_2], .agg #[.int .i64 x1_0, .int .i64 x1_1, .int .i64 x1_2]] w fun e w' => e = .returned (.int .i64 (addS (addS (addS 0 (mulS x0_0 x1_0)) (mulS x0_1 x1_1)) (mulS x0_2 x1_2))) ∧ Below w.heap.size w w' :=
  eng_two (C := ⟨consFix, fun _ _ _ => none, fun _ => false, noFacts, fun _ => 0⟩) noFacts_ok (n := 20) (f := 33) (args := [.sv (.agg [.val false (.int .i64 x0_0), .val false (.int .i64 x0_1), .val false (.int .i64 x0_2)]), .sv (.agg [.val false (.int .i64 x1_0), .val false (.int .i64 x1_1), .val false (.int .i64 x1_2)])]) (V := .int .i64 (addS (addS (addS 0 (mulS x0_0 x1_0)) (mulS x0_1 x1_1)) (mulS x0_2 x1_2))) rfl (by kernel_rfl) w
def vdotE_g : List Value → Option Value
  | [.agg ⟨[.int .i64 x0_0, .int .i64 x0_1, .int .i64 x0_2]⟩, .agg ⟨[.int .i64 x1_0, .int .i64 x1_1, .int .i64 x1_2]⟩] => some (.int .i64 (addS (addS (addS 0 (mulS x0_0 x1_0)) (mulS x0_1 x1_1)) (mulS x0_2 x1_2)))
  | _ => none
def vdotE_con : Con Try.prog := conV Try.prog 33 vdotE_g fun vs V hV w => by
  unfold vdotE_g at hV
  split at hV
  · cases hV; exact vdotE_eng _ _ _ _ _ _ w
  · cases hV

theorem rdotE_eng (x0_0 : Int) (x0_1 : Int) (x0_2 : Int) (x1_0 : Int) (x1_1 : Int) (x1_2 : Int) (w : World) :
    Calls Try.prog 36 #[.agg #[.int .i64 x0_0, .int .i64 x0_1, .int .i64 x0_2], .agg #[.int .i64 x1_0, .int .i64 x1_1, .int .i64 x1_2]] w fun e w' => e = .returned (.int .i64 (addS (addS (addS 0 (mulS x0_0 x1_0)) (mulS x0_1 x1_1)) (mulS x0_2 x1_2))) ∧ Below w.heap.size w w' :=
  eng_two (C := ⟨consFix, fun _ _ _ => none, fun _ => false, noFacts, fun _ => 0⟩) noFacts_ok (n := 20) (f := 36) (args := [.sv (.agg [.val false (.int .i64 x0_0), .val false (.int .i64 x0_1), .val false (.int .i64 x0_2)]), .sv (.agg [.val false (.int .i64 x1_0), .val false (.int .i64 x1_1), .val false (.int .i64 x1_2)])]) (V := .int .i64 (addS (addS (addS 0 (mulS x0_0 x1_0)) (mulS x0_1 x1_1)) (mulS x0_2 x1_2))) rfl (by kernel_rfl) w
def rdotE_g : List Value → Option Value
  | [.agg ⟨[.int .i64 x0_0, .int .i64 x0_1, .int .i64 x0_2]⟩, .agg ⟨[.int .i64 x1_0, .int .i64 x1_1, .int .i64 x1_2]⟩] => some (.int .i64 (addS (addS (addS 0 (mulS x0_0 x1_0)) (mulS x0_1 x1_1)) (mulS x0_2 x1_2)))
  | _ => none
def rdotE_con : Con Try.prog := conV Try.prog 36 rdotE_g fun vs V hV w => by
  unfold rdotE_g at hV
  split at hV
  · cases hV; exact rdotE_eng _ _ _ _ _ _ w
  · cases hV

theorem vcrossE_eng (x0_0 : Int) (x0_1 : Int) (x0_2 : Int) (x1_0 : Int) (x1_1 : Int) (x1_2 : Int) (w : World) :
    Calls Try.prog 62 #[.agg #[.int .i64 x0_0, .int .i64 x0_1, .int .i64 x0_2], .agg #[.int .i64 x1_0, .int .i64 x1_1, .int .i64 x1_2]] w fun e w' => e = .returned (.agg #[.int .i64 (subS (mulS x0_1 x1_2) (mulS x0_2 x1_1)), .int .i64 (subS (mulS x0_2 x1_0) (mulS x0_0 x1_2)), .int .i64 (subS (mulS x0_0 x1_1) (mulS x0_1 x1_0))]) ∧ Below w.heap.size w w' :=
  eng_two (C := ⟨consFix, fun _ _ _ => none, fun _ => false, noFacts, fun _ => 0⟩) noFacts_ok (n := 20) (f := 62) (args := [.sv (.agg [.val false (.int .i64 x0_0), .val false (.int .i64 x0_1), .val false (.int .i64 x0_2)]), .sv (.agg [.val false (.int .i64 x1_0), .val false (.int .i64 x1_1), .val false (.int .i64 x1_2)])]) (V := .agg #[.int .i64 (subS (mulS x0_1 x1_2) (mulS x0_2 x1_1)), .int .i64 (subS (mulS x0_2 x1_0) (mulS x0_0 x1_2)), .int .i64 (subS (mulS x0_0 x1_1) (mulS x0_1 x1_0))]) rfl (by kernel_rfl) w
def vcrossE_g : List Value → Option Value
  | [.agg ⟨[.int .i64 x0_0, .int .i64 x0_1, .int .i64 x0_2]⟩, .agg ⟨[.int .i64 x1_0, .int .i64 x1_1, .int .i64 x1_2]⟩] => some (.agg #[.int .i64 (subS (mulS x0_1 x1_2) (mulS x0_2 x1_1)), .int .i64 (subS (mulS x0_2 x1_0) (mulS x0_0 x1_2)), .int .i64 (subS (mulS x0_0 x1_1) (mulS x0_1 x1_0))])
  | _ => none
def vcrossE_con : Con Try.prog := conV Try.prog 62 vcrossE_g fun vs V hV w => by
  unfold vcrossE_g at hV
  split at hV
  · cases hV; exact vcrossE_eng _ _ _ _ _ _ w
  · cases hV


def consVec : List (Con Try.prog) := [
  toE_con,
  fromE_con,
  vnewE_con,
  vaddE_con,
  raddE_con,
  vsubE_con,
  rsubE_con,
  vscaleE_con,
  rscaleE_con,
  vmixE_con,
  vdotE_con,
  rdotE_con,
  vcrossE_con,
] ++ consFix
end Go.Proofs.Ytgmopdnknkjfpaa
