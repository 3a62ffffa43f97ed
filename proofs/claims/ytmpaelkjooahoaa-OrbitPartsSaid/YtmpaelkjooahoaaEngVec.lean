/- What the functions of layer 2 on points compute. No condition. -/
import Derived.Test.YtmpaelkjooahoaaEngFix
set_option linter.unusedVariables false
namespace Go.Proofs.Ytmpaelkjooahoaa
open Go.RowKit

theorem toE_eng (x0_0 x0_1 x0_2 : Int) (w : World) :
    Calls Try.prog 9 #[.agg #[.int .i64 x0_0, .int .i64 x0_1, .int .i64 x0_2]] w fun e w' => e = .returned (.agg #[.int .i64 (x0_0), .int .i64 (x0_1), .int .i64 (x0_2)]) ∧ Below w.heap.size w w' :=
  eng_two (C := ⟨consFix, fun _ _ _ => none, fun _ => false, noFacts, fun _ => 0⟩) noFacts_ok (n := 20) (f := 9) (args := [.sv (.agg [.val false (.int .i64 x0_0), .val false (.int .i64 x0_1), .val false (.int .i64 x0_2)])]) (V := .agg #[.int .i64 (x0_0), .int .i64 (x0_1), .int .i64 (x0_2)]) rfl (by kernel_rfl) w
def toE_g : List Value → Option Value
  | [.agg ⟨[.int .i64 x0_0, .int .i64 x0_1, .int .i64 x0_2]⟩] => some (.agg #[.int .i64 (x0_0), .int .i64 (x0_1), .int .i64 (x0_2)])
  | _ => none
def toE_con : Con Try.prog := conV Try.prog 9 toE_g fun vs V hV w => by
  unfold toE_g at hV
  split at hV
  · cases hV; exact toE_eng _ _ _ w
  · cases hV

theorem fromE_eng (x0_0 x0_1 x0_2 : Int) (w : World) :
    Calls Try.prog 54 #[.agg #[.int .i64 x0_0, .int .i64 x0_1, .int .i64 x0_2]] w fun e w' => e = .returned (.agg #[.int .i64 (x0_0), .int .i64 (x0_1), .int .i64 (x0_2)]) ∧ Below w.heap.size w w' :=
  eng_two (C := ⟨consFix, fun _ _ _ => none, fun _ => false, noFacts, fun _ => 0⟩) noFacts_ok (n := 20) (f := 54) (args := [.sv (.agg [.val false (.int .i64 x0_0), .val false (.int .i64 x0_1), .val false (.int .i64 x0_2)])]) (V := .agg #[.int .i64 (x0_0), .int .i64 (x0_1), .int .i64 (x0_2)]) rfl (by kernel_rfl) w
def fromE_g : List Value → Option Value
  | [.agg ⟨[.int .i64 x0_0, .int .i64 x0_1, .int .i64 x0_2]⟩] => some (.agg #[.int .i64 (x0_0), .int .i64 (x0_1), .int .i64 (x0_2)])
  | _ => none
def fromE_con : Con Try.prog := conV Try.prog 54 fromE_g fun vs V hV w => by
  unfold fromE_g at hV
  split at hV
  · cases hV; exact fromE_eng _ _ _ w
  · cases hV

theorem vnewE_eng (x0 x1 x2 : Int) (w : World) :
    Calls Try.prog 41 #[.int .i64 x0, .int .i64 x1, .int .i64 x2] w fun e w' => e = .returned (.agg #[.int .i64 (x0), .int .i64 (x1), .int .i64 (x2)]) ∧ Below w.heap.size w w' :=
  eng_two (C := ⟨consFix, fun _ _ _ => none, fun _ => false, noFacts, fun _ => 0⟩) noFacts_ok (n := 20) (f := 41) (args := [.sv (.one (.val false (.int .i64 x0))), .sv (.one (.val false (.int .i64 x1))), .sv (.one (.val false (.int .i64 x2)))]) (V := .agg #[.int .i64 (x0), .int .i64 (x1), .int .i64 (x2)]) rfl (by kernel_rfl) w
def vnewE_g : List Value → Option Value
  | [.int .i64 x0, .int .i64 x1, .int .i64 x2] => some (.agg #[.int .i64 (x0), .int .i64 (x1), .int .i64 (x2)])
  | _ => none
def vnewE_con : Con Try.prog := conV Try.prog 41 vnewE_g fun vs V hV w => by
  unfold vnewE_g at hV
  split at hV
  · cases hV; exact vnewE_eng _ _ _ w
  · cases hV

theorem vaddE_eng (x0_0 x0_1 x0_2 x1_0 x1_1 x1_2 : Int) (w : World) :
    Calls Try.prog 44 #[.agg #[.int .i64 x0_0, .int .i64 x0_1, .int .i64 x0_2], .agg #[.int .i64 x1_0, .int .i64 x1_1, .int .i64 x1_2]] w fun e w' => e = .returned (.agg #[.int .i64 (addS x0_0 x1_0), .int .i64 (addS x0_1 x1_1), .int .i64 (addS x0_2 x1_2)]) ∧ Below w.heap.size w w' :=
  eng_two (C := ⟨consFix, fun _ _ _ => none, fun _ => false, noFacts, fun _ => 0⟩) noFacts_ok (n := 20) (f := 44) (args := [.sv (.agg [.val false (.int .i64 x0_0), .val false (.int .i64 x0_1), .val false (.int .i64 x0_2)]), .sv (.agg [.val false (.int .i64 x1_0), .val false (.int .i64 x1_1), .val false (.int .i64 x1_2)])]) (V := .agg #[.int .i64 (addS x0_0 x1_0), .int .i64 (addS x0_1 x1_1), .int .i64 (addS x0_2 x1_2)]) rfl (by kernel_rfl) w
def vaddE_g : List Value → Option Value
  | [.agg ⟨[.int .i64 x0_0, .int .i64 x0_1, .int .i64 x0_2]⟩, .agg ⟨[.int .i64 x1_0, .int .i64 x1_1, .int .i64 x1_2]⟩] => some (.agg #[.int .i64 (addS x0_0 x1_0), .int .i64 (addS x0_1 x1_1), .int .i64 (addS x0_2 x1_2)])
  | _ => none
def vaddE_con : Con Try.prog := conV Try.prog 44 vaddE_g fun vs V hV w => by
  unfold vaddE_g at hV
  split at hV
  · cases hV; exact vaddE_eng _ _ _ _ _ _ w
  · cases hV

theorem raddE_eng (x0_0 x0_1 x0_2 x1_0 x1_1 x1_2 : Int) (w : World) :
    Calls Try.prog 48 #[.agg #[.int .i64 x0_0, .int .i64 x0_1, .int .i64 x0_2], .agg #[.int .i64 x1_0, .int .i64 x1_1, .int .i64 x1_2]] w fun e w' => e = .returned (.agg #[.int .i64 (addS x0_0 x1_0), .int .i64 (addS x0_1 x1_1), .int .i64 (addS x0_2 x1_2)]) ∧ Below w.heap.size w w' :=
  eng_two (C := ⟨consFix, fun _ _ _ => none, fun _ => false, noFacts, fun _ => 0⟩) noFacts_ok (n := 20) (f := 48) (args := [.sv (.agg [.val false (.int .i64 x0_0), .val false (.int .i64 x0_1), .val false (.int .i64 x0_2)]), .sv (.agg [.val false (.int .i64 x1_0), .val false (.int .i64 x1_1), .val false (.int .i64 x1_2)])]) (V := .agg #[.int .i64 (addS x0_0 x1_0), .int .i64 (addS x0_1 x1_1), .int .i64 (addS x0_2 x1_2)]) rfl (by kernel_rfl) w
def raddE_g : List Value → Option Value
  | [.agg ⟨[.int .i64 x0_0, .int .i64 x0_1, .int .i64 x0_2]⟩, .agg ⟨[.int .i64 x1_0, .int .i64 x1_1, .int .i64 x1_2]⟩] => some (.agg #[.int .i64 (addS x0_0 x1_0), .int .i64 (addS x0_1 x1_1), .int .i64 (addS x0_2 x1_2)])
  | _ => none
def raddE_con : Con Try.prog := conV Try.prog 48 raddE_g fun vs V hV w => by
  unfold raddE_g at hV
  split at hV
  · cases hV; exact raddE_eng _ _ _ _ _ _ w
  · cases hV

theorem vsubE_eng (x0_0 x0_1 x0_2 x1_0 x1_1 x1_2 : Int) (w : World) :
    Calls Try.prog 57 #[.agg #[.int .i64 x0_0, .int .i64 x0_1, .int .i64 x0_2], .agg #[.int .i64 x1_0, .int .i64 x1_1, .int .i64 x1_2]] w fun e w' => e = .returned (.agg #[.int .i64 (subS x0_0 x1_0), .int .i64 (subS x0_1 x1_1), .int .i64 (subS x0_2 x1_2)]) ∧ Below w.heap.size w w' :=
  eng_two (C := ⟨consFix, fun _ _ _ => none, fun _ => false, noFacts, fun _ => 0⟩) noFacts_ok (n := 20) (f := 57) (args := [.sv (.agg [.val false (.int .i64 x0_0), .val false (.int .i64 x0_1), .val false (.int .i64 x0_2)]), .sv (.agg [.val false (.int .i64 x1_0), .val false (.int .i64 x1_1), .val false (.int .i64 x1_2)])]) (V := .agg #[.int .i64 (subS x0_0 x1_0), .int .i64 (subS x0_1 x1_1), .int .i64 (subS x0_2 x1_2)]) rfl (by kernel_rfl) w
def vsubE_g : List Value → Option Value
  | [.agg ⟨[.int .i64 x0_0, .int .i64 x0_1, .int .i64 x0_2]⟩, .agg ⟨[.int .i64 x1_0, .int .i64 x1_1, .int .i64 x1_2]⟩] => some (.agg #[.int .i64 (subS x0_0 x1_0), .int .i64 (subS x0_1 x1_1), .int .i64 (subS x0_2 x1_2)])
  | _ => none
def vsubE_con : Con Try.prog := conV Try.prog 57 vsubE_g fun vs V hV w => by
  unfold vsubE_g at hV
  split at hV
  · cases hV; exact vsubE_eng _ _ _ _ _ _ w
  · cases hV

theorem rsubE_eng (x0_0 x0_1 x0_2 x1_0 x1_1 x1_2 : Int) (w : World) :
    Calls Try.prog 66 #[.agg #[.int .i64 x0_0, .int .i64 x0_1, .int .i64 x0_2], .agg #[.int .i64 x1_0, .int .i64 x1_1, .int .i64 x1_2]] w fun e w' => e = .returned (.agg #[.int .i64 (subS x0_0 x1_0), .int .i64 (subS x0_1 x1_1), .int .i64 (subS x0_2 x1_2)]) ∧ Below w.heap.size w w' :=
  eng_two (C := ⟨consFix, fun _ _ _ => none, fun _ => false, noFacts, fun _ => 0⟩) noFacts_ok (n := 20) (f := 66) (args := [.sv (.agg [.val false (.int .i64 x0_0), .val false (.int .i64 x0_1), .val false (.int .i64 x0_2)]), .sv (.agg [.val false (.int .i64 x1_0), .val false (.int .i64 x1_1), .val false (.int .i64 x1_2)])]) (V := .agg #[.int .i64 (subS x0_0 x1_0), .int .i64 (subS x0_1 x1_1), .int .i64 (subS x0_2 x1_2)]) rfl (by kernel_rfl) w
def rsubE_g : List Value → Option Value
  | [.agg ⟨[.int .i64 x0_0, .int .i64 x0_1, .int .i64 x0_2]⟩, .agg ⟨[.int .i64 x1_0, .int .i64 x1_1, .int .i64 x1_2]⟩] => some (.agg #[.int .i64 (subS x0_0 x1_0), .int .i64 (subS x0_1 x1_1), .int .i64 (subS x0_2 x1_2)])
  | _ => none
def rsubE_con : Con Try.prog := conV Try.prog 66 rsubE_g fun vs V hV w => by
  unfold rsubE_g at hV
  split at hV
  · cases hV; exact rsubE_eng _ _ _ _ _ _ w
  · cases hV



theorem vmixE_eng (x0_0 x0_1 x0_2 x1_0 x1_1 x1_2 x2 : Int) (w : World) :
    Calls Try.prog 92 #[.agg #[.int .i64 x0_0, .int .i64 x0_1, .int .i64 x0_2], .agg #[.int .i64 x1_0, .int .i64 x1_1, .int .i64 x1_2], .int .i64 x2] w fun e w' => e = .returned (.agg #[.int .i64 (lerpS x0_0 x1_0 x2), .int .i64 (lerpS x0_1 x1_1 x2), .int .i64 (lerpS x0_2 x1_2 x2)]) ∧ Below w.heap.size w w' :=
  eng_two (C := ⟨consFix, fun _ _ _ => none, fun _ => false, noFacts, fun _ => 0⟩) noFacts_ok (n := 20) (f := 92) (args := [.sv (.agg [.val false (.int .i64 x0_0), .val false (.int .i64 x0_1), .val false (.int .i64 x0_2)]), .sv (.agg [.val false (.int .i64 x1_0), .val false (.int .i64 x1_1), .val false (.int .i64 x1_2)]), .sv (.one (.val false (.int .i64 x2)))]) (V := .agg #[.int .i64 (lerpS x0_0 x1_0 x2), .int .i64 (lerpS x0_1 x1_1 x2), .int .i64 (lerpS x0_2 x1_2 x2)]) rfl (by kernel_rfl) w
def vmixE_g : List Value → Option Value
  | [.agg ⟨[.int .i64 x0_0, .int .i64 x0_1, .int .i64 x0_2]⟩, .agg ⟨[.int .i64 x1_0, .int .i64 x1_1, .int .i64 x1_2]⟩, .int .i64 x2] => some (.agg #[.int .i64 (lerpS x0_0 x1_0 x2), .int .i64 (lerpS x0_1 x1_1 x2), .int .i64 (lerpS x0_2 x1_2 x2)])
  | _ => none
def vmixE_con : Con Try.prog := conV Try.prog 92 vmixE_g fun vs V hV w => by
  unfold vmixE_g at hV
  split at hV
  · cases hV; exact vmixE_eng _ _ _ _ _ _ _ w
  · cases hV

theorem rmixE_eng (x0_0 x0_1 x0_2 x1_0 x1_1 x1_2 x2 : Int) (w : World) :
    Calls Try.prog 95 #[.agg #[.int .i64 x0_0, .int .i64 x0_1, .int .i64 x0_2], .agg #[.int .i64 x1_0, .int .i64 x1_1, .int .i64 x1_2], .int .i64 x2] w fun e w' => e = .returned (.agg #[.int .i64 (lerpS x0_0 x1_0 x2), .int .i64 (lerpS x0_1 x1_1 x2), .int .i64 (lerpS x0_2 x1_2 x2)]) ∧ Below w.heap.size w w' :=
  eng_two (C := ⟨consFix, fun _ _ _ => none, fun _ => false, noFacts, fun _ => 0⟩) noFacts_ok (n := 20) (f := 95) (args := [.sv (.agg [.val false (.int .i64 x0_0), .val false (.int .i64 x0_1), .val false (.int .i64 x0_2)]), .sv (.agg [.val false (.int .i64 x1_0), .val false (.int .i64 x1_1), .val false (.int .i64 x1_2)]), .sv (.one (.val false (.int .i64 x2)))]) (V := .agg #[.int .i64 (lerpS x0_0 x1_0 x2), .int .i64 (lerpS x0_1 x1_1 x2), .int .i64 (lerpS x0_2 x1_2 x2)]) rfl (by kernel_rfl) w
def rmixE_g : List Value → Option Value
  | [.agg ⟨[.int .i64 x0_0, .int .i64 x0_1, .int .i64 x0_2]⟩, .agg ⟨[.int .i64 x1_0, .int .i64 x1_1, .int .i64 x1_2]⟩, .int .i64 x2] => some (.agg #[.int .i64 (lerpS x0_0 x1_0 x2), .int .i64 (lerpS x0_1 x1_1 x2), .int .i64 (lerpS x0_2 x1_2 x2)])
  | _ => none
def rmixE_con : Con Try.prog := conV Try.prog 95 rmixE_g fun vs V hV w => by
  unfold rmixE_g at hV
  split at hV
  · cases hV; exact rmixE_eng _ _ _ _ _ _ _ w
  · cases hV

theorem vdotE_eng (x0_0 x0_1 x0_2 x1_0 x1_1 x1_2 : Int) (w : World) :
    Calls Try.prog 85 #[.agg #[.int .i64 x0_0, .int .i64 x0_1, .int .i64 x0_2], .agg #[.int .i64 x1_0, .int .i64 x1_1, .int .i64 x1_2]] w fun e w' => e = .returned (.int .i64 (addS (addS (addS 0 (mulS x0_0 x1_0)) (mulS x0_1 x1_1)) (mulS x0_2 x1_2))) ∧ Below w.heap.size w w' :=
  eng_two (C := ⟨consFix, fun _ _ _ => none, fun _ => false, noFacts, fun _ => 0⟩) noFacts_ok (n := 20) (f := 85) (args := [.sv (.agg [.val false (.int .i64 x0_0), .val false (.int .i64 x0_1), .val false (.int .i64 x0_2)]), .sv (.agg [.val false (.int .i64 x1_0), .val false (.int .i64 x1_1), .val false (.int .i64 x1_2)])]) (V := .int .i64 (addS (addS (addS 0 (mulS x0_0 x1_0)) (mulS x0_1 x1_1)) (mulS x0_2 x1_2))) rfl (by kernel_rfl) w
def vdotE_g : List Value → Option Value
  | [.agg ⟨[.int .i64 x0_0, .int .i64 x0_1, .int .i64 x0_2]⟩, .agg ⟨[.int .i64 x1_0, .int .i64 x1_1, .int .i64 x1_2]⟩] => some (.int .i64 (addS (addS (addS 0 (mulS x0_0 x1_0)) (mulS x0_1 x1_1)) (mulS x0_2 x1_2)))
  | _ => none
def vdotE_con : Con Try.prog := conV Try.prog 85 vdotE_g fun vs V hV w => by
  unfold vdotE_g at hV
  split at hV
  · cases hV; exact vdotE_eng _ _ _ _ _ _ w
  · cases hV

theorem rdotE_eng (x0_0 x0_1 x0_2 x1_0 x1_1 x1_2 : Int) (w : World) :
    Calls Try.prog 89 #[.agg #[.int .i64 x0_0, .int .i64 x0_1, .int .i64 x0_2], .agg #[.int .i64 x1_0, .int .i64 x1_1, .int .i64 x1_2]] w fun e w' => e = .returned (.int .i64 (addS (addS (addS 0 (mulS x0_0 x1_0)) (mulS x0_1 x1_1)) (mulS x0_2 x1_2))) ∧ Below w.heap.size w w' :=
  eng_two (C := ⟨consFix, fun _ _ _ => none, fun _ => false, noFacts, fun _ => 0⟩) noFacts_ok (n := 20) (f := 89) (args := [.sv (.agg [.val false (.int .i64 x0_0), .val false (.int .i64 x0_1), .val false (.int .i64 x0_2)]), .sv (.agg [.val false (.int .i64 x1_0), .val false (.int .i64 x1_1), .val false (.int .i64 x1_2)])]) (V := .int .i64 (addS (addS (addS 0 (mulS x0_0 x1_0)) (mulS x0_1 x1_1)) (mulS x0_2 x1_2))) rfl (by kernel_rfl) w
def rdotE_g : List Value → Option Value
  | [.agg ⟨[.int .i64 x0_0, .int .i64 x0_1, .int .i64 x0_2]⟩, .agg ⟨[.int .i64 x1_0, .int .i64 x1_1, .int .i64 x1_2]⟩] => some (.int .i64 (addS (addS (addS 0 (mulS x0_0 x1_0)) (mulS x0_1 x1_1)) (mulS x0_2 x1_2)))
  | _ => none
def rdotE_con : Con Try.prog := conV Try.prog 89 rdotE_g fun vs V hV w => by
  unfold rdotE_g at hV
  split at hV
  · cases hV; exact rdotE_eng _ _ _ _ _ _ w
  · cases hV



def consVec : List (Con Try.prog) := [
  toE_con,
  fromE_con,
  vnewE_con,
  vaddE_con,
  raddE_con,
  vsubE_con,
  rsubE_con,
  vmixE_con,
  rmixE_con,
  vdotE_con,
  rdotE_con,
] ++ consFix
end Go.Proofs.Ytmpaelkjooahoaa
