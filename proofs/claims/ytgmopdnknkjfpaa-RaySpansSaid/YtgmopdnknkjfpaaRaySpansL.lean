/- The law RaySpans: it answers true for all values. No condition. -/
import Derived.Test.YtgmopdnknkjfpaaRaySpansT
import Derived.Test.YtgmopdnknkjfpaaRaySpans
set_option linter.unusedVariables false
set_option linter.unusedSimpArgs false
namespace Go.Proofs.Ytgmopdnknkjfpaa
open Go.RowKit

theorem cond_cases {α : Type} {Q : α → Prop} {c : Bool} {a b : α} (h1 : c = true → Q a) (h2 : c = false → Q b) : Q (bif c then a else b) := by
  cases c with
  | true => exact h1 rfl
  | false => exact h2 rfl
theorem of_not_false {c : Bool} (h : (!c) = false) : c = true := by cases c <;> first | rfl | cases h
/-- A hit that is met. -/
structure MetAt (r0 r1 r2 r3 r4 r5 r6 p0 p1 p2 p3 p4 p5 p6 p7 p8 p9 p10 p11 n f T X Y Z : Int) : Prop where
  lo : n < T
  hi : T ≤ f
  x : X = (rat_v r0 r1 r2 r3 r4 r5 r6 T).1
  y : Y = (rat_v r0 r1 r2 r3 r4 r5 r6 T).2.1
  z : Z = (rat_v r0 r1 r2 r3 r4 r5 r6 T).2.2
  box : bhas_v (around_v p0 p1 p2 p3 p4 p5 p6 p7 p8 p9 p10 p11).1 (around_v p0 p1 p2 p3 p4 p5 p6 p7 p8 p9 p10 p11).2.1 (around_v p0 p1 p2 p3 p4 p5 p6 p7 p8 p9 p10 p11).2.2.1 (around_v p0 p1 p2 p3 p4 p5 p6 p7 p8 p9 p10 p11).2.2.2.1 (around_v p0 p1 p2 p3 p4 p5 p6 p7 p8 p9 p10 p11).2.2.2.2.1 (around_v p0 p1 p2 p3 p4 p5 p6 p7 p8 p9 p10 p11).2.2.2.2.2 X Y Z = true
theorem meet_met {r0 r1 r2 r3 r4 r5 r6 p0 p1 p2 p3 p4 p5 p6 p7 p8 p9 p10 p11 t n f : Int} (h : (meet_v r0 r1 r2 r3 r4 r5 r6 p0 p1 p2 p3 p4 p5 p6 p7 p8 p9 p10 p11 t n f).2.2.2.2 = true) : MetAt r0 r1 r2 r3 r4 r5 r6 p0 p1 p2 p3 p4 p5 p6 p7 p8 p9 p10 p11 n f (meet_v r0 r1 r2 r3 r4 r5 r6 p0 p1 p2 p3 p4 p5 p6 p7 p8 p9 p10 p11 t n f).1 (meet_v r0 r1 r2 r3 r4 r5 r6 p0 p1 p2 p3 p4 p5 p6 p7 p8 p9 p10 p11 t n f).2.1 (meet_v r0 r1 r2 r3 r4 r5 r6 p0 p1 p2 p3 p4 p5 p6 p7 p8 p9 p10 p11 t n f).2.2.1 (meet_v r0 r1 r2 r3 r4 r5 r6 p0 p1 p2 p3 p4 p5 p6 p7 p8 p9 p10 p11 t n f).2.2.2.1 := by
  unfold meet_v at h ⊢
  by_cases c1 : t > n
  case neg => rw [decide_eq_false c1] at h; cases h
  by_cases c2 : t ≤ f
  case neg => rw [decide_eq_true c1, decide_eq_false c2] at h; cases h
  rw [decide_eq_true c1, decide_eq_true c2] at h ⊢
  exact ⟨c1, c2, rfl, rfl, rfl, h⟩
def HitOk (r0 r1 r2 r3 r4 r5 r6 p0 p1 p2 p3 p4 p5 p6 p7 p8 p9 p10 p11 n f : Int) (v : Int × Int × Int × Int × Int × Int × Int × Bool) : Prop := v.2.2.2.2.2.2.2 = true → MetAt r0 r1 r2 r3 r4 r5 r6 p0 p1 p2 p3 p4 p5 p6 p7 p8 p9 p10 p11 n f v.1 v.2.1 v.2.2.1 v.2.2.2.1
set_option maxRecDepth 100000 in
theorem ball_met (r0 r1 r2 r3 r4 r5 r6 p0 p1 p2 p3 p4 p5 p6 p7 p8 p9 p10 p11 n f : Int) : HitOk r0 r1 r2 r3 r4 r5 r6 p0 p1 p2 p3 p4 p5 p6 p7 p8 p9 p10 p11 n f (ball_v r0 r1 r2 r3 r4 r5 r6 p0 p1 p2 p3 p4 p5 p6 p7 p8 p9 p10 p11 n f) := by
  unfold ball_v
  repeat' (first | (with_reducible refine cond_cases (Q := HitOk r0 r1 r2 r3 r4 r5 r6 p0 p1 p2 p3 p4 p5 p6 p7 p8 p9 p10 p11 n f) (fun _ => ?_) (fun _ => ?_)) | (intro h; first | (cases h; done) | exact meet_met (by with_reducible assumption) | exact meet_met (of_not_false (by with_reducible assumption))))
set_option maxRecDepth 100000 in
theorem face_met (r0 r1 r2 r3 r4 r5 r6 p0 p1 p2 p3 p4 p5 p6 p7 p8 p9 p10 p11 n f : Int) : HitOk r0 r1 r2 r3 r4 r5 r6 p0 p1 p2 p3 p4 p5 p6 p7 p8 p9 p10 p11 n f (face_v r0 r1 r2 r3 r4 r5 r6 p0 p1 p2 p3 p4 p5 p6 p7 p8 p9 p10 p11 n f) := by
  unfold face_v
  repeat' (first | (with_reducible refine cond_cases (Q := HitOk r0 r1 r2 r3 r4 r5 r6 p0 p1 p2 p3 p4 p5 p6 p7 p8 p9 p10 p11 n f) (fun _ => ?_) (fun _ => ?_)) | (intro h; first | (cases h; done) | exact meet_met (by with_reducible assumption) | exact meet_met (of_not_false (by with_reducible assumption))))
theorem tail_true {r0 r1 r2 r3 r4 r5 r6 p0 p1 p2 p3 p4 p5 p6 p7 p8 p9 p10 p11 L H : Int} {v : Int × Int × Int × Int × Int × Int × Int × Bool} (h : HitOk r0 r1 r2 r3 r4 r5 r6 p0 p1 p2 p3 p4 p5 p6 p7 p8 p9 p10 p11 L H v) :
    (bif (!v.2.2.2.2.2.2.2) then (some true) else bif (decide (v.1 > L)) then (bif (decide (v.1 ≤ H)) then (bif (bhas_v (around_v p0 p1 p2 p3 p4 p5 p6 p7 p8 p9 p10 p11).1 (around_v p0 p1 p2 p3 p4 p5 p6 p7 p8 p9 p10 p11).2.1 (around_v p0 p1 p2 p3 p4 p5 p6 p7 p8 p9 p10 p11).2.2.1 (around_v p0 p1 p2 p3 p4 p5 p6 p7 p8 p9 p10 p11).2.2.2.1 (around_v p0 p1 p2 p3 p4 p5 p6 p7 p8 p9 p10 p11).2.2.2.2.1 (around_v p0 p1 p2 p3 p4 p5 p6 p7 p8 p9 p10 p11).2.2.2.2.2 v.2.1 v.2.2.1 v.2.2.2.1) then (bif (bhas_v (rspan_v r0 r1 r2 r3 r4 r5 r6 L H).1 (rspan_v r0 r1 r2 r3 r4 r5 r6 L H).2.1 (rspan_v r0 r1 r2 r3 r4 r5 r6 L H).2.2.1 (rspan_v r0 r1 r2 r3 r4 r5 r6 L H).2.2.2.1 (rspan_v r0 r1 r2 r3 r4 r5 r6 L H).2.2.2.2.1 (rspan_v r0 r1 r2 r3 r4 r5 r6 L H).2.2.2.2.2 v.2.1 v.2.2.1 v.2.2.2.1) then (some (bmeets_v (around_v p0 p1 p2 p3 p4 p5 p6 p7 p8 p9 p10 p11).1 (around_v p0 p1 p2 p3 p4 p5 p6 p7 p8 p9 p10 p11).2.1 (around_v p0 p1 p2 p3 p4 p5 p6 p7 p8 p9 p10 p11).2.2.1 (around_v p0 p1 p2 p3 p4 p5 p6 p7 p8 p9 p10 p11).2.2.2.1 (around_v p0 p1 p2 p3 p4 p5 p6 p7 p8 p9 p10 p11).2.2.2.2.1 (around_v p0 p1 p2 p3 p4 p5 p6 p7 p8 p9 p10 p11).2.2.2.2.2 (rspan_v r0 r1 r2 r3 r4 r5 r6 L H).1 (rspan_v r0 r1 r2 r3 r4 r5 r6 L H).2.1 (rspan_v r0 r1 r2 r3 r4 r5 r6 L H).2.2.1 (rspan_v r0 r1 r2 r3 r4 r5 r6 L H).2.2.2.1 (rspan_v r0 r1 r2 r3 r4 r5 r6 L H).2.2.2.2.1 (rspan_v r0 r1 r2 r3 r4 r5 r6 L H).2.2.2.2.2)) else some false) else some false) else some false) else some false) = some true := by
  cases hk : v.2.2.2.2.2.2.2 with
  | false => rfl
  | true =>
    have k := h hk
    have s := span_has r0 r1 r2 r3 r4 r5 r6 (l := L) (t := v.1) (h := H) (by have := k.lo; omega) k.hi
    rw [← k.x, ← k.y, ← k.z] at s
    rw [decide_eq_true (show v.1 > L from k.lo), decide_eq_true k.hi, k.box, s, meets_of k.box s]
    rfl
theorem lrs_true (x0_0 x0_1 x0_2 x0_3 x0_4 x0_5 x0_6 x1_0 x1_1 x1_2 x1_3 x1_4 x1_5 x1_6 x1_7 x1_8 x1_9 x1_10 x1_11 x1_12 x1_13 x1_14 x1_15 x1_16 x1_17 x1_18 x1_19 x1_20 x1_21 x1_22 x1_23 x2 x3 x4 : Int) : lrs_res x0_0 x0_1 x0_2 x0_3 x0_4 x0_5 x0_6 x1_0 x1_1 x1_2 x1_3 x1_4 x1_5 x1_6 x1_7 x1_8 x1_9 x1_10 x1_11 x1_12 x1_13 x1_14 x1_15 x1_16 x1_17 x1_18 x1_19 x1_20 x1_21 x1_22 x1_23 x2 x3 x4 = some true := by
  have hs := span_has x0_0 x0_1 x0_2 x0_3 x0_4 x0_5 x0_6 (l := (if x4 < if x3 < x2 then x3 else x2 then x4 else if x3 < x2 then x3 else x2)) (t := (if (if x4 < if x3 > x2 then x3 else x2 then x4 else if x3 > x2 then x3 else x2) > if x3 < x2 then x3 else x2 then if x4 < if x3 > x2 then x3 else x2 then x4 else if x3 > x2 then x3 else x2 else if x3 < x2 then x3 else x2)) (h := (if x4 > if x3 > x2 then x3 else x2 then x4 else if x3 > x2 then x3 else x2)) (by (repeat' split) <;> omega) (by (repeat' split) <;> omega)
  unfold lrs_res
  rw [hs]
  refine cond_cases (Q := fun v => v = some true) (fun h => by cases h) (fun _ => ?_)
  refine cond_cases (Q := fun v => v = some true) (fun _ => ?_) (fun _ => ?_)
  · exact tail_true (ball_met _ _ _ _ _ _ _ _ _ _ _ _ _ _ _ _ _ _ _ _ _)
  · exact tail_true (face_met _ _ _ _ _ _ _ _ _ _ _ _ _ _ _ _ _ _ _ _ _)
theorem lrs_call (x0_0 x0_1 x0_2 x0_3 x0_4 x0_5 x0_6 x1_0 x1_1 x1_2 x1_3 x1_4 x1_5 x1_6 x1_7 x1_8 x1_9 x1_10 x1_11 x1_12 x1_13 x1_14 x1_15 x1_16 x1_17 x1_18 x1_19 x1_20 x1_21 x1_22 x1_23 x2 x3 x4 : Int) : CallOk Try.prog 5 [.sv (.agg [.val false (.int .i64 x0_0), .val false (.int .i64 x0_1), .val false (.int .i64 x0_2), .val false (.int .i64 x0_3), .val false (.int .i64 x0_4), .val false (.int .i64 x0_5), .val false (.int .i64 x0_6)]), .sv (.agg [.val false (.int .i64 x1_0), .val false (.int .i64 x1_1), .val false (.int .i64 x1_2), .val false (.int .i64 x1_3), .val false (.int .i64 x1_4), .val false (.int .i64 x1_5), .val false (.int .i64 x1_6), .val false (.int .i64 x1_7), .val false (.int .i64 x1_8), .val false (.int .i64 x1_9), .val false (.int .i64 x1_10), .val false (.int .i64 x1_11), .val false (.int .i64 x1_12), .val false (.int .i64 x1_13), .val false (.int .i64 x1_14), .val false (.int .i64 x1_15), .val false (.int .i64 x1_16), .val false (.int .i64 x1_17), .val false (.int .i64 x1_18), .val false (.int .i64 x1_19), .val false (.int .i64 x1_20), .val false (.int .i64 x1_21), .val false (.int .i64 x1_22), .val false (.int .i64 x1_23)]), .sv (.one (.val false (.int .i64 x2))), .sv (.one (.val false (.int .i64 x3))), .sv (.one (.val false (.int .i64 x4)))] [] 0 (lrs_O true) := lrs_tree (lrs_true x0_0 x0_1 x0_2 x0_3 x0_4 x0_5 x0_6 x1_0 x1_1 x1_2 x1_3 x1_4 x1_5 x1_6 x1_7 x1_8 x1_9 x1_10 x1_11 x1_12 x1_13 x1_14 x1_15 x1_16 x1_17 x1_18 x1_19 x1_20 x1_21 x1_22 x1_23 x2 x3 x4)
end Go.Proofs.Ytgmopdnknkjfpaa
