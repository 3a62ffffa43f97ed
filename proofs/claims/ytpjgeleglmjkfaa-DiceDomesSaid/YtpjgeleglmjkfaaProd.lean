/- Inner products and lengths, by the program and by the reference. No condition. -/
import Derived.Test.YtpjgeleglmjkfaaFix
import Derived.Test.YtpjgeleglmjkfaaTail
set_option linter.unusedVariables false
namespace Go.Proofs.Ytpjgeleglmjkfaa
open Go.RowKit

def dotS (a0 a1 a2 b0 b1 b2 : Int) : Int := addS (addS (addS 0 (mulS a0 b0)) (mulS a1 b1)) (mulS a2 b2)
def lenS (a0 a1 a2 : Int) : Int := rootS (dotS a0 a1 a2 a0 a1 a2)
theorem sum3 (x y z : Int) : sumS 3 (at0 [x, y, z]) = addS (addS (addS 0 x) y) z := by
  simp [sumS, loopN, at0]
theorem vdot_any (a0 a1 a2 b0 b1 b2 : Int) (w : World) :
    Calls Try.prog 39 #[.agg #[.int .i64 a0, .int .i64 a1, .int .i64 a2], .agg #[.int .i64 b0, .int .i64 b1, .int .i64 b2]] w
      fun e w' => e = .returned (.int .i64 (dotS a0 a1 a2 b0 b1 b2)) ∧ Below w.heap.size w w' := by
  have m0 := mulS_bd a0 b0
  have m1 := mulS_bd a1 b1
  have m2 := mulS_bd a2 b2
  go_enter Try.func39, Try.ntmps39
  go_wp2
  refine wp_world (fun W => W.heap[w.heap.size]? = some (.cells #[.int .i64 a0, .int .i64 a1, .int .i64 a2] 68 (0, 0)) ∧ W.heap[w.heap.size + 1]? = some (.cells #[.int .i64 b0, .int .i64 b1, .int .i64 b2] 68 (0, 0)) ∧ w.heap.size + 1 < W.heap.size ∧ Below w.heap.size w W) ⟨blk_old _ (heap_new _ _ _ (by simp)), heap_new _ _ _ (by simp), by simp, by go_grown⟩ ?_
  rintro W ⟨hA0, hA1, hz, hb⟩
  have c0_0 := blk_cls (i := 0) (v := .int .i64 a0) hA0 rfl
  have c0_1 := blk_cls (i := 1) (v := .int .i64 a1) hA0 rfl
  have c0_2 := blk_cls (i := 2) (v := .int .i64 a2) hA0 rfl
  have c1_0 := blk_cls (i := 0) (v := .int .i64 b0) hA1 rfl
  have c1_1 := blk_cls (i := 1) (v := .int .i64 b1) hA1 rfl
  have c1_2 := blk_cls (i := 2) (v := .int .i64 b2) hA1 rfl
  refine wp_region_cls_tail 15 (by kernel_rfl) (by kernel_rfl) ?_
  simp only [List.take_succ_cons, List.take_zero, List.drop_succ_cons, List.drop_zero]
  repeat (go_big_quiet_step ((go_at_call 50; exact Cls.calls_same (fmul_any _ _ _))))
  refine wpQuiet_nil ?_
  rintro ⟨W1, hb1⟩
  replace hb := below_then hb1 hb
  dsimp only
  clear hb1 hz c0_0 c0_1 c0_2 c1_0 c1_1 c1_2 hA0 hA1
  go_wp2_with fail
  refine (fsum_any _ 3 (at0 [mulS a0 b0, mulS a1 b1, mulS a2 b2]) _ ?_).mono ?_
  · exact nums_new .i64 _ _ _ [mulS a0 b0, mulS a1 b1, mulS a2 b2] _ _ (by simp) rfl rfl (by
      intro x hx
      simp only [List.mem_cons, List.not_mem_nil, or_false] at hx
      rcases hx with rfl | rfl | rfl <;> exact WalkArith.wf_i64 (by omega)) (by omega)
  rintro e w' ⟨rfl, rfl⟩
  rw [sum3]
  go_wp2
  go_ret
  exact ⟨rfl, hb.alloc hb.size _⟩
theorem rvdot_any (a0 a1 a2 b0 b1 b2 : Int) (w : World) :
    Calls Try.prog 62 #[.agg #[.int .i64 a0, .int .i64 a1, .int .i64 a2], .agg #[.int .i64 b0, .int .i64 b1, .int .i64 b2]] w
      fun e w' => e = .returned (.int .i64 (dotS a0 a1 a2 b0 b1 b2)) ∧ Below w.heap.size w w' := by
  go_enter Try.func62, Try.ntmps62
  go_wp2
  refine wp_world (fun W => W.heap[w.heap.size]? = some (.cells #[.int .i64 a0, .int .i64 a1, .int .i64 a2] 66 (0, 0)) ∧ W.heap[w.heap.size + 1]? = some (.cells #[.int .i64 b0, .int .i64 b1, .int .i64 b2] 66 (0, 0)) ∧ w.heap.size + 1 < W.heap.size ∧ Below w.heap.size w W) ⟨blk_old _ (heap_new _ _ _ (by simp)), heap_new _ _ _ (by simp), by simp, by go_grown⟩ ?_
  rintro W ⟨hA0, hA1, hz, hb⟩
  refine wp_loop_rounds 4 ?_
  rw [rounds_succ]
  go_wp2
  have c0 := blk_cls (i := 0) (v := .int .i64 a0) hA0 rfl
  have c1 := blk_cls (i := 0) (v := .int .i64 b0) hA1 rfl
  refine wp_region_cls (by kernel_rfl) (by kernel_rfl) ?_
  repeat (go_big_quiet_step ((first | (go_at_call 57; exact Cls.calls_same (rmul_any _ _ _)) | (go_at_call 77; exact Cls.calls_same (radd_any _ _ _)))))
  refine wpQuiet_nil ?_
  rintro ⟨W1, hb1⟩
  replace hA0 := heap_below hb1 hA0
  replace hA1 := heap_below hb1 hA1
  replace hz := Nat.lt_of_lt_of_le hz hb1.size
  replace hb := below_then hb1 hb
  dsimp only
  clear hb1 c0 c1
  go_wp2
  refine wp_rounds_world (fun W => W.heap[w.heap.size]? = some (.cells #[.int .i64 a0, .int .i64 a1, .int .i64 a2] 66 (0, 0)) ∧ W.heap[w.heap.size + 1]? = some (.cells #[.int .i64 b0, .int .i64 b1, .int .i64 b2] 66 (0, 0)) ∧ w.heap.size + 1 < W.heap.size ∧ Below w.heap.size w W) ⟨hA0, hA1, hz, hb⟩ ?_
  clear hA0 hA1 hz hb
  rintro W ⟨hA0, hA1, hz, hb⟩
  rw [rounds_succ]
  go_wp2
  have c0 := blk_cls (i := 1) (v := .int .i64 a1) hA0 rfl
  have c1 := blk_cls (i := 1) (v := .int .i64 b1) hA1 rfl
  refine wp_region_cls (by kernel_rfl) (by kernel_rfl) ?_
  repeat (go_big_quiet_step ((first | (go_at_call 57; exact Cls.calls_same (rmul_any _ _ _)) | (go_at_call 77; exact Cls.calls_same (radd_any _ _ _)))))
  refine wpQuiet_nil ?_
  rintro ⟨W1, hb1⟩
  replace hA0 := heap_below hb1 hA0
  replace hA1 := heap_below hb1 hA1
  replace hz := Nat.lt_of_lt_of_le hz hb1.size
  replace hb := below_then hb1 hb
  dsimp only
  clear hb1 c0 c1
  go_wp2
  refine wp_rounds_world (fun W => W.heap[w.heap.size]? = some (.cells #[.int .i64 a0, .int .i64 a1, .int .i64 a2] 66 (0, 0)) ∧ W.heap[w.heap.size + 1]? = some (.cells #[.int .i64 b0, .int .i64 b1, .int .i64 b2] 66 (0, 0)) ∧ w.heap.size + 1 < W.heap.size ∧ Below w.heap.size w W) ⟨hA0, hA1, hz, hb⟩ ?_
  clear hA0 hA1 hz hb
  rintro W ⟨hA0, hA1, hz, hb⟩
  rw [rounds_succ]
  go_wp2
  have c0 := blk_cls (i := 2) (v := .int .i64 a2) hA0 rfl
  have c1 := blk_cls (i := 2) (v := .int .i64 b2) hA1 rfl
  refine wp_region_cls (by kernel_rfl) (by kernel_rfl) ?_
  repeat (go_big_quiet_step ((first | (go_at_call 57; exact Cls.calls_same (rmul_any _ _ _)) | (go_at_call 77; exact Cls.calls_same (radd_any _ _ _)))))
  refine wpQuiet_nil ?_
  rintro ⟨W1, hb1⟩
  replace hA0 := heap_below hb1 hA0
  replace hA1 := heap_below hb1 hA1
  replace hz := Nat.lt_of_lt_of_le hz hb1.size
  replace hb := below_then hb1 hb
  dsimp only
  clear hb1 c0 c1
  go_wp2
  refine wp_rounds_world (fun W => W.heap[w.heap.size]? = some (.cells #[.int .i64 a0, .int .i64 a1, .int .i64 a2] 66 (0, 0)) ∧ W.heap[w.heap.size + 1]? = some (.cells #[.int .i64 b0, .int .i64 b1, .int .i64 b2] 66 (0, 0)) ∧ w.heap.size + 1 < W.heap.size ∧ Below w.heap.size w W) ⟨hA0, hA1, hz, hb⟩ ?_
  clear hA0 hA1 hz hb
  rintro W ⟨hA0, hA1, hz, hb⟩
  rw [rounds_succ]
  go_wp2
  go_ret
  exact ⟨rfl, hb⟩
theorem vlen_any (a0 a1 a2 : Int) (w : World) :
    Calls Try.prog 64 #[.agg #[.int .i64 a0, .int .i64 a1, .int .i64 a2]] w fun e w' => e = .returned (.int .i64 (lenS a0 a1 a2)) ∧ Below w.heap.size w w' := by
  go_enter Try.func64, Try.ntmps64
  go_wp2_with (first | (go_at_call 39; refine (vdot_any _ _ _ _ _ _ _).mono ?_; rintro e w1 ⟨rfl, hb⟩) | (go_at_call 49; refine (froot_any _ _).mono ?_; rintro e w' ⟨rfl, rfl⟩))
  go_ret
  refine ⟨rfl, below_then (by assumption) (by go_grown)⟩
theorem rvlen_any (a0 a1 a2 : Int) (w : World) :
    Calls Try.prog 75 #[.agg #[.int .i64 a0, .int .i64 a1, .int .i64 a2]] w fun e w' => e = .returned (.int .i64 (lenS a0 a1 a2)) ∧ Below w.heap.size w w' := by
  go_enter Try.func75, Try.ntmps75
  go_wp2_with (first | (go_at_call 62; refine (rvdot_any _ _ _ _ _ _ _).mono ?_; rintro e w1 ⟨rfl, hb⟩) | (go_at_call 55; refine (rroot_any _ _).mono ?_; rintro e w' ⟨rfl, rfl⟩))
  go_ret
  refine ⟨rfl, below_then (by assumption) (by go_grown)⟩

end Go.Proofs.Ytpjgeleglmjkfaa
