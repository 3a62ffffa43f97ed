/- What the functions of layer 2 on matrices compute. No condition. -/
import Derived.Test.YtaikocplcblnkaaEngWave
set_option linter.unusedVariables false
namespace Go.Proofs.Ytaikocplcblnkaa
open Go.RowKit

def dS (a b c x y z : Int) : Int := addS (addS (addS 0 (mulS a x)) (mulS b y)) (mulS c z)

theorem vdirE_eng (x0_0 : Int) (x0_1 : Int) (x0_2 : Int) (x0_3 : Int) (x0_4 : Int) (x0_5 : Int) (x0_6 : Int) (x0_7 : Int) (x0_8 : Int) (x0_9 : Int) (x0_10 : Int) (x0_11 : Int) (x1_0 : Int) (x1_1 : Int) (x1_2 : Int) (w : World) :
    Calls Try.prog 35 #[.agg #[.int .i64 x0_0, .int .i64 x0_1, .int .i64 x0_2, .int .i64 x0_3, .int .i64 x0_4, .int .i64 x0_5, .int .i64 x0_6, .int .i64 x0_7, .int .i64 x0_8, .int .i64 x0_9, .int .i64 x0_10, .int .i64 x0_11], .agg #[.int .i64 x1_0, .int .i64 x1_1, .int .i64 x1_2]] w fun e w' => e = .returned (.agg #[.int .i64 (dS x0_0 x0_3 x0_6 x1_0 x1_1 x1_2), .int .i64 (dS x0_1 x0_4 x0_7 x1_0 x1_1 x1_2), .int .i64 (dS x0_2 x0_5 x0_8 x1_0 x1_1 x1_2)]) ∧ Below w.heap.size w w' :=
  eng_two (C := ⟨consFix, fun _ _ _ => none, fun _ => false, noFacts, fun _ => 0⟩) noFacts_ok (n := 20) (f := 35) (args := [.sv (.agg [.val false (.int .i64 x0_0), .val false (.int .i64 x0_1), .val false (.int .i64 x0_2), .val false (.int .i64 x0_3), .val false (.int .i64 x0_4), .val false (.int .i64 x0_5), .val false (.int .i64 x0_6), .val false (.int .i64 x0_7), .val false (.int .i64 x0_8), .val false (.int .i64 x0_9), .val false (.int .i64 x0_10), .val false (.int .i64 x0_11)]), .sv (.agg [.val false (.int .i64 x1_0), .val false (.int .i64 x1_1), .val false (.int .i64 x1_2)])]) (V := .agg #[.int .i64 (dS x0_0 x0_3 x0_6 x1_0 x1_1 x1_2), .int .i64 (dS x0_1 x0_4 x0_7 x1_0 x1_1 x1_2), .int .i64 (dS x0_2 x0_5 x0_8 x1_0 x1_1 x1_2)]) rfl (by kernel_rfl) w
def vdirE_g : List Value → Option Value
  | [.agg ⟨[.int .i64 x0_0, .int .i64 x0_1, .int .i64 x0_2, .int .i64 x0_3, .int .i64 x0_4, .int .i64 x0_5, .int .i64 x0_6, .int .i64 x0_7, .int .i64 x0_8, .int .i64 x0_9, .int .i64 x0_10, .int .i64 x0_11]⟩, .agg ⟨[.int .i64 x1_0, .int .i64 x1_1, .int .i64 x1_2]⟩] => some (.agg #[.int .i64 (dS x0_0 x0_3 x0_6 x1_0 x1_1 x1_2), .int .i64 (dS x0_1 x0_4 x0_7 x1_0 x1_1 x1_2), .int .i64 (dS x0_2 x0_5 x0_8 x1_0 x1_1 x1_2)])
  | _ => none
def vdirE_con : Con Try.prog := conV Try.prog 35 vdirE_g fun vs V hV w => by
  unfold vdirE_g at hV
  split at hV
  · cases hV; exact vdirE_eng _ _ _ _ _ _ _ _ _ _ _ _ _ _ _ w
  · cases hV

theorem vpointE_eng (x0_0 : Int) (x0_1 : Int) (x0_2 : Int) (x0_3 : Int) (x0_4 : Int) (x0_5 : Int) (x0_6 : Int) (x0_7 : Int) (x0_8 : Int) (x0_9 : Int) (x0_10 : Int) (x0_11 : Int) (x1_0 : Int) (x1_1 : Int) (x1_2 : Int) (w : World) :
    Calls Try.prog 37 #[.agg #[.int .i64 x0_0, .int .i64 x0_1, .int .i64 x0_2, .int .i64 x0_3, .int .i64 x0_4, .int .i64 x0_5, .int .i64 x0_6, .int .i64 x0_7, .int .i64 x0_8, .int .i64 x0_9, .int .i64 x0_10, .int .i64 x0_11], .agg #[.int .i64 x1_0, .int .i64 x1_1, .int .i64 x1_2]] w fun e w' => e = .returned (.agg #[.int .i64 (addS (dS x0_0 x0_3 x0_6 x1_0 x1_1 x1_2) x0_9), .int .i64 (addS (dS x0_1 x0_4 x0_7 x1_0 x1_1 x1_2) x0_10), .int .i64 (addS (dS x0_2 x0_5 x0_8 x1_0 x1_1 x1_2) x0_11)]) ∧ Below w.heap.size w w' :=
  eng_two (C := ⟨consFix, fun _ _ _ => none, fun _ => false, noFacts, fun _ => 0⟩) noFacts_ok (n := 20) (f := 37) (args := [.sv (.agg [.val false (.int .i64 x0_0), .val false (.int .i64 x0_1), .val false (.int .i64 x0_2), .val false (.int .i64 x0_3), .val false (.int .i64 x0_4), .val false (.int .i64 x0_5), .val false (.int .i64 x0_6), .val false (.int .i64 x0_7), .val false (.int .i64 x0_8), .val false (.int .i64 x0_9), .val false (.int .i64 x0_10), .val false (.int .i64 x0_11)]), .sv (.agg [.val false (.int .i64 x1_0), .val false (.int .i64 x1_1), .val false (.int .i64 x1_2)])]) (V := .agg #[.int .i64 (addS (dS x0_0 x0_3 x0_6 x1_0 x1_1 x1_2) x0_9), .int .i64 (addS (dS x0_1 x0_4 x0_7 x1_0 x1_1 x1_2) x0_10), .int .i64 (addS (dS x0_2 x0_5 x0_8 x1_0 x1_1 x1_2) x0_11)]) rfl (by kernel_rfl) w
def vpointE_g : List Value → Option Value
  | [.agg ⟨[.int .i64 x0_0, .int .i64 x0_1, .int .i64 x0_2, .int .i64 x0_3, .int .i64 x0_4, .int .i64 x0_5, .int .i64 x0_6, .int .i64 x0_7, .int .i64 x0_8, .int .i64 x0_9, .int .i64 x0_10, .int .i64 x0_11]⟩, .agg ⟨[.int .i64 x1_0, .int .i64 x1_1, .int .i64 x1_2]⟩] => some (.agg #[.int .i64 (addS (dS x0_0 x0_3 x0_6 x1_0 x1_1 x1_2) x0_9), .int .i64 (addS (dS x0_1 x0_4 x0_7 x1_0 x1_1 x1_2) x0_10), .int .i64 (addS (dS x0_2 x0_5 x0_8 x1_0 x1_1 x1_2) x0_11)])
  | _ => none
def vpointE_con : Con Try.prog := conV Try.prog 37 vpointE_g fun vs V hV w => by
  unfold vpointE_g at hV
  split at hV
  · cases hV; exact vpointE_eng _ _ _ _ _ _ _ _ _ _ _ _ _ _ _ w
  · cases hV

theorem rdirE_eng (x0_0 : Int) (x0_1 : Int) (x0_2 : Int) (x0_3 : Int) (x0_4 : Int) (x0_5 : Int) (x0_6 : Int) (x0_7 : Int) (x0_8 : Int) (x0_9 : Int) (x0_10 : Int) (x0_11 : Int) (x1_0 : Int) (x1_1 : Int) (x1_2 : Int) (w : World) :
    Calls Try.prog 36 #[.agg #[.int .i64 x0_0, .int .i64 x0_1, .int .i64 x0_2, .int .i64 x0_3, .int .i64 x0_4, .int .i64 x0_5, .int .i64 x0_6, .int .i64 x0_7, .int .i64 x0_8, .int .i64 x0_9, .int .i64 x0_10, .int .i64 x0_11], .agg #[.int .i64 x1_0, .int .i64 x1_1, .int .i64 x1_2]] w fun e w' => e = .returned (.agg #[.int .i64 (dS x0_0 x0_3 x0_6 x1_0 x1_1 x1_2), .int .i64 (dS x0_1 x0_4 x0_7 x1_0 x1_1 x1_2), .int .i64 (dS x0_2 x0_5 x0_8 x1_0 x1_1 x1_2)]) ∧ Below w.heap.size w w' :=
  eng_two (C := ⟨consFix, fun _ _ _ => none, fun _ => false, noFacts, fun _ => 0⟩) noFacts_ok (n := 20) (f := 36) (args := [.sv (.agg [.val false (.int .i64 x0_0), .val false (.int .i64 x0_1), .val false (.int .i64 x0_2), .val false (.int .i64 x0_3), .val false (.int .i64 x0_4), .val false (.int .i64 x0_5), .val false (.int .i64 x0_6), .val false (.int .i64 x0_7), .val false (.int .i64 x0_8), .val false (.int .i64 x0_9), .val false (.int .i64 x0_10), .val false (.int .i64 x0_11)]), .sv (.agg [.val false (.int .i64 x1_0), .val false (.int .i64 x1_1), .val false (.int .i64 x1_2)])]) (V := .agg #[.int .i64 (dS x0_0 x0_3 x0_6 x1_0 x1_1 x1_2), .int .i64 (dS x0_1 x0_4 x0_7 x1_0 x1_1 x1_2), .int .i64 (dS x0_2 x0_5 x0_8 x1_0 x1_1 x1_2)]) rfl (by kernel_rfl) w
def rdirE_g : List Value → Option Value
  | [.agg ⟨[.int .i64 x0_0, .int .i64 x0_1, .int .i64 x0_2, .int .i64 x0_3, .int .i64 x0_4, .int .i64 x0_5, .int .i64 x0_6, .int .i64 x0_7, .int .i64 x0_8, .int .i64 x0_9, .int .i64 x0_10, .int .i64 x0_11]⟩, .agg ⟨[.int .i64 x1_0, .int .i64 x1_1, .int .i64 x1_2]⟩] => some (.agg #[.int .i64 (dS x0_0 x0_3 x0_6 x1_0 x1_1 x1_2), .int .i64 (dS x0_1 x0_4 x0_7 x1_0 x1_1 x1_2), .int .i64 (dS x0_2 x0_5 x0_8 x1_0 x1_1 x1_2)])
  | _ => none
def rdirE_con : Con Try.prog := conV Try.prog 36 rdirE_g fun vs V hV w => by
  unfold rdirE_g at hV
  split at hV
  · cases hV; exact rdirE_eng _ _ _ _ _ _ _ _ _ _ _ _ _ _ _ w
  · cases hV

theorem rpointE_eng (x0_0 : Int) (x0_1 : Int) (x0_2 : Int) (x0_3 : Int) (x0_4 : Int) (x0_5 : Int) (x0_6 : Int) (x0_7 : Int) (x0_8 : Int) (x0_9 : Int) (x0_10 : Int) (x0_11 : Int) (x1_0 : Int) (x1_1 : Int) (x1_2 : Int) (w : World) :
    Calls Try.prog 38 #[.agg #[.int .i64 x0_0, .int .i64 x0_1, .int .i64 x0_2, .int .i64 x0_3, .int .i64 x0_4, .int .i64 x0_5, .int .i64 x0_6, .int .i64 x0_7, .int .i64 x0_8, .int .i64 x0_9, .int .i64 x0_10, .int .i64 x0_11], .agg #[.int .i64 x1_0, .int .i64 x1_1, .int .i64 x1_2]] w fun e w' => e = .returned (.agg #[.int .i64 (addS (dS x0_0 x0_3 x0_6 x1_0 x1_1 x1_2) x0_9), .int .i64 (addS (dS x0_1 x0_4 x0_7 x1_0 x1_1 x1_2) x0_10), .int .i64 (addS (dS x0_2 x0_5 x0_8 x1_0 x1_1 x1_2) x0_11)]) ∧ Below w.heap.size w w' :=
  eng_two (C := ⟨consFix, fun _ _ _ => none, fun _ => false, noFacts, fun _ => 0⟩) noFacts_ok (n := 20) (f := 38) (args := [.sv (.agg [.val false (.int .i64 x0_0), .val false (.int .i64 x0_1), .val false (.int .i64 x0_2), .val false (.int .i64 x0_3), .val false (.int .i64 x0_4), .val false (.int .i64 x0_5), .val false (.int .i64 x0_6), .val false (.int .i64 x0_7), .val false (.int .i64 x0_8), .val false (.int .i64 x0_9), .val false (.int .i64 x0_10), .val false (.int .i64 x0_11)]), .sv (.agg [.val false (.int .i64 x1_0), .val false (.int .i64 x1_1), .val false (.int .i64 x1_2)])]) (V := .agg #[.int .i64 (addS (dS x0_0 x0_3 x0_6 x1_0 x1_1 x1_2) x0_9), .int .i64 (addS (dS x0_1 x0_4 x0_7 x1_0 x1_1 x1_2) x0_10), .int .i64 (addS (dS x0_2 x0_5 x0_8 x1_0 x1_1 x1_2) x0_11)]) rfl (by kernel_rfl) w
def rpointE_g : List Value → Option Value
  | [.agg ⟨[.int .i64 x0_0, .int .i64 x0_1, .int .i64 x0_2, .int .i64 x0_3, .int .i64 x0_4, .int .i64 x0_5, .int .i64 x0_6, .int .i64 x0_7, .int .i64 x0_8, .int .i64 x0_9, .int .i64 x0_10, .int .i64 x0_11]⟩, .agg ⟨[.int .i64 x1_0, .int .i64 x1_1, .int .i64 x1_2]⟩] => some (.agg #[.int .i64 (addS (dS x0_0 x0_3 x0_6 x1_0 x1_1 x1_2) x0_9), .int .i64 (addS (dS x0_1 x0_4 x0_7 x1_0 x1_1 x1_2) x0_10), .int .i64 (addS (dS x0_2 x0_5 x0_8 x1_0 x1_1 x1_2) x0_11)])
  | _ => none
def rpointE_con : Con Try.prog := conV Try.prog 38 rpointE_g fun vs V hV w => by
  unfold rpointE_g at hV
  split at hV
  · cases hV; exact rpointE_eng _ _ _ _ _ _ _ _ _ _ _ _ _ _ _ w
  · cases hV

def consMat0 : List (Con Try.prog) := [
  vdirE_con,
  vpointE_con,
  rdirE_con,
  rpointE_con,
] ++ consWave
theorem vtimesE_eng (x0_0 : Int) (x0_1 : Int) (x0_2 : Int) (x0_3 : Int) (x0_4 : Int) (x0_5 : Int) (x0_6 : Int) (x0_7 : Int) (x0_8 : Int) (x0_9 : Int) (x0_10 : Int) (x0_11 : Int) (x1_0 : Int) (x1_1 : Int) (x1_2 : Int) (x1_3 : Int) (x1_4 : Int) (x1_5 : Int) (x1_6 : Int) (x1_7 : Int) (x1_8 : Int) (x1_9 : Int) (x1_10 : Int) (x1_11 : Int) (w : World) :
    Calls Try.prog 40 #[.agg #[.int .i64 x0_0, .int .i64 x0_1, .int .i64 x0_2, .int .i64 x0_3, .int .i64 x0_4, .int .i64 x0_5, .int .i64 x0_6, .int .i64 x0_7, .int .i64 x0_8, .int .i64 x0_9, .int .i64 x0_10, .int .i64 x0_11], .agg #[.int .i64 x1_0, .int .i64 x1_1, .int .i64 x1_2, .int .i64 x1_3, .int .i64 x1_4, .int .i64 x1_5, .int .i64 x1_6, .int .i64 x1_7, .int .i64 x1_8, .int .i64 x1_9, .int .i64 x1_10, .int .i64 x1_11]] w fun e w' => e = .returned (.agg #[.int .i64 (dS x0_0 x0_3 x0_6 x1_0 x1_1 x1_2), .int .i64 (dS x0_1 x0_4 x0_7 x1_0 x1_1 x1_2), .int .i64 (dS x0_2 x0_5 x0_8 x1_0 x1_1 x1_2), .int .i64 (dS x0_0 x0_3 x0_6 x1_3 x1_4 x1_5), .int .i64 (dS x0_1 x0_4 x0_7 x1_3 x1_4 x1_5), .int .i64 (dS x0_2 x0_5 x0_8 x1_3 x1_4 x1_5), .int .i64 (dS x0_0 x0_3 x0_6 x1_6 x1_7 x1_8), .int .i64 (dS x0_1 x0_4 x0_7 x1_6 x1_7 x1_8), .int .i64 (dS x0_2 x0_5 x0_8 x1_6 x1_7 x1_8), .int .i64 (addS (dS x0_0 x0_3 x0_6 x1_9 x1_10 x1_11) x0_9), .int .i64 (addS (dS x0_1 x0_4 x0_7 x1_9 x1_10 x1_11) x0_10), .int .i64 (addS (dS x0_2 x0_5 x0_8 x1_9 x1_10 x1_11) x0_11)]) ∧ Below w.heap.size w w' :=
  eng_two (C := ⟨consMat0, fun _ _ _ => none, fun _ => false, noFacts, fun _ => 0⟩) noFacts_ok (n := 20) (f := 40) (args := [.sv (.agg [.val false (.int .i64 x0_0), .val false (.int .i64 x0_1), .val false (.int .i64 x0_2), .val false (.int .i64 x0_3), .val false (.int .i64 x0_4), .val false (.int .i64 x0_5), .val false (.int .i64 x0_6), .val false (.int .i64 x0_7), .val false (.int .i64 x0_8), .val false (.int .i64 x0_9), .val false (.int .i64 x0_10), .val false (.int .i64 x0_11)]), .sv (.agg [.val false (.int .i64 x1_0), .val false (.int .i64 x1_1), .val false (.int .i64 x1_2), .val false (.int .i64 x1_3), .val false (.int .i64 x1_4), .val false (.int .i64 x1_5), .val false (.int .i64 x1_6), .val false (.int .i64 x1_7), .val false (.int .i64 x1_8), .val false (.int .i64 x1_9), .val false (.int .i64 x1_10), .val false (.int .i64 x1_11)])]) (V := .agg #[.int .i64 (dS x0_0 x0_3 x0_6 x1_0 x1_1 x1_2), .int .i64 (dS x0_1 x0_4 x0_7 x1_0 x1_1 x1_2), .int .i64 (dS x0_2 x0_5 x0_8 x1_0 x1_1 x1_2), .int .i64 (dS x0_0 x0_3 x0_6 x1_3 x1_4 x1_5), .int .i64 (dS x0_1 x0_4 x0_7 x1_3 x1_4 x1_5), .int .i64 (dS x0_2 x0_5 x0_8 x1_3 x1_4 x1_5), .int .i64 (dS x0_0 x0_3 x0_6 x1_6 x1_7 x1_8), .int .i64 (dS x0_1 x0_4 x0_7 x1_6 x1_7 x1_8), .int .i64 (dS x0_2 x0_5 x0_8 x1_6 x1_7 x1_8), .int .i64 (addS (dS x0_0 x0_3 x0_6 x1_9 x1_10 x1_11) x0_9), .int .i64 (addS (dS x0_1 x0_4 x0_7 x1_9 x1_10 x1_11) x0_10), .int .i64 (addS (dS x0_2 x0_5 x0_8 x1_9 x1_10 x1_11) x0_11)]) rfl (by kernel_rfl) w
def vtimesE_g : List Value → Option Value
  | [.agg ⟨[.int .i64 x0_0, .int .i64 x0_1, .int .i64 x0_2, .int .i64 x0_3, .int .i64 x0_4, .int .i64 x0_5, .int .i64 x0_6, .int .i64 x0_7, .int .i64 x0_8, .int .i64 x0_9, .int .i64 x0_10, .int .i64 x0_11]⟩, .agg ⟨[.int .i64 x1_0, .int .i64 x1_1, .int .i64 x1_2, .int .i64 x1_3, .int .i64 x1_4, .int .i64 x1_5, .int .i64 x1_6, .int .i64 x1_7, .int .i64 x1_8, .int .i64 x1_9, .int .i64 x1_10, .int .i64 x1_11]⟩] => some (.agg #[.int .i64 (dS x0_0 x0_3 x0_6 x1_0 x1_1 x1_2), .int .i64 (dS x0_1 x0_4 x0_7 x1_0 x1_1 x1_2), .int .i64 (dS x0_2 x0_5 x0_8 x1_0 x1_1 x1_2), .int .i64 (dS x0_0 x0_3 x0_6 x1_3 x1_4 x1_5), .int .i64 (dS x0_1 x0_4 x0_7 x1_3 x1_4 x1_5), .int .i64 (dS x0_2 x0_5 x0_8 x1_3 x1_4 x1_5), .int .i64 (dS x0_0 x0_3 x0_6 x1_6 x1_7 x1_8), .int .i64 (dS x0_1 x0_4 x0_7 x1_6 x1_7 x1_8), .int .i64 (dS x0_2 x0_5 x0_8 x1_6 x1_7 x1_8), .int .i64 (addS (dS x0_0 x0_3 x0_6 x1_9 x1_10 x1_11) x0_9), .int .i64 (addS (dS x0_1 x0_4 x0_7 x1_9 x1_10 x1_11) x0_10), .int .i64 (addS (dS x0_2 x0_5 x0_8 x1_9 x1_10 x1_11) x0_11)])
  | _ => none
def vtimesE_con : Con Try.prog := conV Try.prog 40 vtimesE_g fun vs V hV w => by
  unfold vtimesE_g at hV
  split at hV
  · cases hV; exact vtimesE_eng _ _ _ _ _ _ _ _ _ _ _ _ _ _ _ _ _ _ _ _ _ _ _ _ w
  · cases hV

theorem rtimesE_eng (x0_0 : Int) (x0_1 : Int) (x0_2 : Int) (x0_3 : Int) (x0_4 : Int) (x0_5 : Int) (x0_6 : Int) (x0_7 : Int) (x0_8 : Int) (x0_9 : Int) (x0_10 : Int) (x0_11 : Int) (x1_0 : Int) (x1_1 : Int) (x1_2 : Int) (x1_3 : Int) (x1_4 : Int) (x1_5 : Int) (x1_6 : Int) (x1_7 : Int) (x1_8 : Int) (x1_9 : Int) (x1_10 : Int) (x1_11 : Int) (w : World) :
    Calls Try.prog 41 #[.agg #[.int .i64 x0_0, .int .i64 x0_1, .int .i64 x0_2, .int .i64 x0_3, .int .i64 x0_4, .int .i64 x0_5, .int .i64 x0_6, .int .i64 x0_7, .int .i64 x0_8, .int .i64 x0_9, .int .i64 x0_10, .int .i64 x0_11], .agg #[.int .i64 x1_0, .int .i64 x1_1, .int .i64 x1_2, .int .i64 x1_3, .int .i64 x1_4, .int .i64 x1_5, .int .i64 x1_6, .int .i64 x1_7, .int .i64 x1_8, .int .i64 x1_9, .int .i64 x1_10, .int .i64 x1_11]] w fun e w' => e = .returned (.agg #[.int .i64 (dS x0_0 x0_3 x0_6 x1_0 x1_1 x1_2), .int .i64 (dS x0_1 x0_4 x0_7 x1_0 x1_1 x1_2), .int .i64 (dS x0_2 x0_5 x0_8 x1_0 x1_1 x1_2), .int .i64 (dS x0_0 x0_3 x0_6 x1_3 x1_4 x1_5), .int .i64 (dS x0_1 x0_4 x0_7 x1_3 x1_4 x1_5), .int .i64 (dS x0_2 x0_5 x0_8 x1_3 x1_4 x1_5), .int .i64 (dS x0_0 x0_3 x0_6 x1_6 x1_7 x1_8), .int .i64 (dS x0_1 x0_4 x0_7 x1_6 x1_7 x1_8), .int .i64 (dS x0_2 x0_5 x0_8 x1_6 x1_7 x1_8), .int .i64 (addS (dS x0_0 x0_3 x0_6 x1_9 x1_10 x1_11) x0_9), .int .i64 (addS (dS x0_1 x0_4 x0_7 x1_9 x1_10 x1_11) x0_10), .int .i64 (addS (dS x0_2 x0_5 x0_8 x1_9 x1_10 x1_11) x0_11)]) ∧ Below w.heap.size w w' :=
  eng_two (C := ⟨consMat0, fun _ _ _ => none, fun _ => false, noFacts, fun _ => 0⟩) noFacts_ok (n := 20) (f := 41) (args := [.sv (.agg [.val false (.int .i64 x0_0), .val false (.int .i64 x0_1), .val false (.int .i64 x0_2), .val false (.int .i64 x0_3), .val false (.int .i64 x0_4), .val false (.int .i64 x0_5), .val false (.int .i64 x0_6), .val false (.int .i64 x0_7), .val false (.int .i64 x0_8), .val false (.int .i64 x0_9), .val false (.int .i64 x0_10), .val false (.int .i64 x0_11)]), .sv (.agg [.val false (.int .i64 x1_0), .val false (.int .i64 x1_1), .val false (.int .i64 x1_2), .val false (.int .i64 x1_3), .val false (.int .i64 x1_4), .val false (.int .i64 x1_5), .val false (.int .i64 x1_6), .val false (.int .i64 x1_7), .val false (.int .i64 x1_8), .val false (.int .i64 x1_9), .val false (.int .i64 x1_10), .val false (.int .i64 x1_11)])]) (V := .agg #[.int .i64 (dS x0_0 x0_3 x0_6 x1_0 x1_1 x1_2), .int .i64 (dS x0_1 x0_4 x0_7 x1_0 x1_1 x1_2), .int .i64 (dS x0_2 x0_5 x0_8 x1_0 x1_1 x1_2), .int .i64 (dS x0_0 x0_3 x0_6 x1_3 x1_4 x1_5), .int .i64 (dS x0_1 x0_4 x0_7 x1_3 x1_4 x1_5), .int .i64 (dS x0_2 x0_5 x0_8 x1_3 x1_4 x1_5), .int .i64 (dS x0_0 x0_3 x0_6 x1_6 x1_7 x1_8), .int .i64 (dS x0_1 x0_4 x0_7 x1_6 x1_7 x1_8), .int .i64 (dS x0_2 x0_5 x0_8 x1_6 x1_7 x1_8), .int .i64 (addS (dS x0_0 x0_3 x0_6 x1_9 x1_10 x1_11) x0_9), .int .i64 (addS (dS x0_1 x0_4 x0_7 x1_9 x1_10 x1_11) x0_10), .int .i64 (addS (dS x0_2 x0_5 x0_8 x1_9 x1_10 x1_11) x0_11)]) rfl (by kernel_rfl) w
def rtimesE_g : List Value → Option Value
  | [.agg ⟨[.int .i64 x0_0, .int .i64 x0_1, .int .i64 x0_2, .int .i64 x0_3, .int .i64 x0_4, .int .i64 x0_5, .int .i64 x0_6, .int .i64 x0_7, .int .i64 x0_8, .int .i64 x0_9, .int .i64 x0_10, .int .i64 x0_11]⟩, .agg ⟨[.int .i64 x1_0, .int .i64 x1_1, .int .i64 x1_2, .int .i64 x1_3, .int .i64 x1_4, .int .i64 x1_5, .int .i64 x1_6, .int .i64 x1_7, .int .i64 x1_8, .int .i64 x1_9, .int .i64 x1_10, .int .i64 x1_11]⟩] => some (.agg #[.int .i64 (dS x0_0 x0_3 x0_6 x1_0 x1_1 x1_2), .int .i64 (dS x0_1 x0_4 x0_7 x1_0 x1_1 x1_2), .int .i64 (dS x0_2 x0_5 x0_8 x1_0 x1_1 x1_2), .int .i64 (dS x0_0 x0_3 x0_6 x1_3 x1_4 x1_5), .int .i64 (dS x0_1 x0_4 x0_7 x1_3 x1_4 x1_5), .int .i64 (dS x0_2 x0_5 x0_8 x1_3 x1_4 x1_5), .int .i64 (dS x0_0 x0_3 x0_6 x1_6 x1_7 x1_8), .int .i64 (dS x0_1 x0_4 x0_7 x1_6 x1_7 x1_8), .int .i64 (dS x0_2 x0_5 x0_8 x1_6 x1_7 x1_8), .int .i64 (addS (dS x0_0 x0_3 x0_6 x1_9 x1_10 x1_11) x0_9), .int .i64 (addS (dS x0_1 x0_4 x0_7 x1_9 x1_10 x1_11) x0_10), .int .i64 (addS (dS x0_2 x0_5 x0_8 x1_9 x1_10 x1_11) x0_11)])
  | _ => none
def rtimesE_con : Con Try.prog := conV Try.prog 41 rtimesE_g fun vs V hV w => by
  unfold rtimesE_g at hV
  split at hV
  · cases hV; exact rtimesE_eng _ _ _ _ _ _ _ _ _ _ _ _ _ _ _ _ _ _ _ _ _ _ _ _ w
  · cases hV

def consMat : List (Con Try.prog) := [
  vdirE_con,
  vpointE_con,
  rdirE_con,
  rpointE_con,
  vtimesE_con,
  rtimesE_con,
] ++ consWave
theorem awake03E (w : World) : Calls Try.prog 61 #[] w fun e w' => e = .returned (.bool true) ∧ Below w.heap.size w w' :=
  eng_two (C := ⟨consMat, fun _ _ _ => none, fun _ => false, noFacts, fun _ => 0⟩) noFacts_ok (n := 20) (f := 61) (args := []) (V := .bool true) rfl (by kernel_rfl) w
def consTurns : List (Con Try.prog) := conC Try.prog 61 (.bool true) awake03E :: consMat.map Con.unk
end Go.Proofs.Ytaikocplcblnkaa
