/- What the functions of layer 2 on points compute. No condition. -/
import Derived.Test.YtijidmcblpgfkaaDoorEngFix
set_option linter.unusedVariables false
namespace Go.Proofs.YtijidmcblpgfkaaDoor
open Go.RowKit

theorem toE_eng (x0_0 x0_1 x0_2 : Int) (w : World) :
    Calls Tryd.prog 23 #[.agg #[.int .i64 x0_0, .int .i64 x0_1, .int .i64 x0_2]] w fun e w' => e = .returned (.agg #[.int .i64 (x0_0), .int .i64 (x0_1), .int .i64 (x0_2)]) ∧ Below w.heap.size w w' :=
  eng_two (C := ⟨consFix, fun _ _ _ => none, fun _ => false, noFacts, fun _ => 0⟩) noFacts_ok (n := 20) (f := 23) (args := [.sv (.agg [.val false (.int .i64 x0_0), .val false (.int .i64 x0_1), .val false (.int .i64 x0_2)])]) (V := .agg #[.int .i64 (x0_0), .int .i64 (x0_1), .int .i64 (x0_2)]) rfl (by kernel_rfl) w
def toE_g : List Value → Option Value
  | [.agg ⟨[.int .i64 x0_0, .int .i64 x0_1, .int .i64 x0_2]⟩] => some (.agg #[.int .i64 (x0_0), .int .i64 (x0_1), .int .i64 (x0_2)])
  | _ => none
def toE_con : Con Tryd.prog := conV Tryd.prog 23 toE_g fun vs V hV w => by
  unfold toE_g at hV
  split at hV
  · cases hV; exact toE_eng _ _ _ w
  · cases hV











theorem vdotE_eng (x0_0 x0_1 x0_2 x1_0 x1_1 x1_2 : Int) (w : World) :
    Calls Tryd.prog 61 #[.agg #[.int .i64 x0_0, .int .i64 x0_1, .int .i64 x0_2], .agg #[.int .i64 x1_0, .int .i64 x1_1, .int .i64 x1_2]] w fun e w' => e = .returned (.int .i64 (addS (addS (addS 0 (mulS x0_0 x1_0)) (mulS x0_1 x1_1)) (mulS x0_2 x1_2))) ∧ Below w.heap.size w w' :=
  eng_two (C := ⟨consFix, fun _ _ _ => none, fun _ => false, noFacts, fun _ => 0⟩) noFacts_ok (n := 20) (f := 61) (args := [.sv (.agg [.val false (.int .i64 x0_0), .val false (.int .i64 x0_1), .val false (.int .i64 x0_2)]), .sv (.agg [.val false (.int .i64 x1_0), .val false (.int .i64 x1_1), .val false (.int .i64 x1_2)])]) (V := .int .i64 (addS (addS (addS 0 (mulS x0_0 x1_0)) (mulS x0_1 x1_1)) (mulS x0_2 x1_2))) rfl (by kernel_rfl) w
def vdotE_g : List Value → Option Value
  | [.agg ⟨[.int .i64 x0_0, .int .i64 x0_1, .int .i64 x0_2]⟩, .agg ⟨[.int .i64 x1_0, .int .i64 x1_1, .int .i64 x1_2]⟩] => some (.int .i64 (addS (addS (addS 0 (mulS x0_0 x1_0)) (mulS x0_1 x1_1)) (mulS x0_2 x1_2)))
  | _ => none
def vdotE_con : Con Tryd.prog := conV Tryd.prog 61 vdotE_g fun vs V hV w => by
  unfold vdotE_g at hV
  split at hV
  · cases hV; exact vdotE_eng _ _ _ _ _ _ w
  · cases hV

theorem rdotE_eng (x0_0 x0_1 x0_2 x1_0 x1_1 x1_2 : Int) (w : World) :
    Calls Tryd.prog 58 #[.agg #[.int .i64 x0_0, .int .i64 x0_1, .int .i64 x0_2], .agg #[.int .i64 x1_0, .int .i64 x1_1, .int .i64 x1_2]] w fun e w' => e = .returned (.int .i64 (addS (addS (addS 0 (mulS x0_0 x1_0)) (mulS x0_1 x1_1)) (mulS x0_2 x1_2))) ∧ Below w.heap.size w w' :=
  eng_two (C := ⟨consFix, fun _ _ _ => none, fun _ => false, noFacts, fun _ => 0⟩) noFacts_ok (n := 20) (f := 58) (args := [.sv (.agg [.val false (.int .i64 x0_0), .val false (.int .i64 x0_1), .val false (.int .i64 x0_2)]), .sv (.agg [.val false (.int .i64 x1_0), .val false (.int .i64 x1_1), .val false (.int .i64 x1_2)])]) (V := .int .i64 (addS (addS (addS 0 (mulS x0_0 x1_0)) (mulS x0_1 x1_1)) (mulS x0_2 x1_2))) rfl (by kernel_rfl) w
def rdotE_g : List Value → Option Value
  | [.agg ⟨[.int .i64 x0_0, .int .i64 x0_1, .int .i64 x0_2]⟩, .agg ⟨[.int .i64 x1_0, .int .i64 x1_1, .int .i64 x1_2]⟩] => some (.int .i64 (addS (addS (addS 0 (mulS x0_0 x1_0)) (mulS x0_1 x1_1)) (mulS x0_2 x1_2)))
  | _ => none
def rdotE_con : Con Tryd.prog := conV Tryd.prog 58 rdotE_g fun vs V hV w => by
  unfold rdotE_g at hV
  split at hV
  · cases hV; exact rdotE_eng _ _ _ _ _ _ w
  · cases hV



def consVec : List (Con Tryd.prog) := [
  toE_con,
  vdotE_con,
  rdotE_con,
] ++ consFix
end Go.Proofs.YtijidmcblpgfkaaDoor
