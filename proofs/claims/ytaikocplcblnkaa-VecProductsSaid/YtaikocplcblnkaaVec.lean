/- What the functions of layer 2 on points compute, by the program and by the reference. No condition. -/
import Derived.Test.YtaikocplcblnkaaFix
import Derived.Test.YtaikocplcblnkaaTail
set_option linter.unusedVariables false
namespace Go.Proofs.Ytaikocplcblnkaa
open Go.RowKit

theorem rvadd_any (a0 a1 a2 b0 b1 b2 : Int) (w : World) :
    Calls Try.prog 19 #[.agg #[.int .i64 a0, .int .i64 a1, .int .i64 a2], .agg #[.int .i64 b0, .int .i64 b1, .int .i64 b2]] w
      fun e w' => e = .returned (.agg #[.int .i64 (addS a0 b0), .int .i64 (addS a1 b1), .int .i64 (addS a2 b2)]) ∧ Below w.heap.size w w' := by
  go_enter Try.func19, Try.ntmps19
  go_wp2
  refine wp_world (fun W => W.heap[w.heap.size]? = some (.cells #[.int .i64 a0, .int .i64 a1, .int .i64 a2] 23 (0, 0)) ∧ W.heap[w.heap.size + 1]? = some (.cells #[.int .i64 b0, .int .i64 b1, .int .i64 b2] 23 (0, 0)) ∧ W.heap[w.heap.size + 1 + 1]? = some (.cells #[.int .i64 0, .int .i64 0, .int .i64 0] 23 (0, 0)) ∧ W.heap[w.heap.size + 1 + 1 + 1]? = some (.cells #[.int .i64 0, .int .i64 0, .int .i64 0] 23 (0, 0)) ∧ w.heap.size + 1 + 1 + 1 < W.heap.size ∧ Below w.heap.size w W) ⟨blk_old _ (blk_old _ (blk_old _ (heap_new _ _ _ (by simp)))), blk_old _ (blk_old _ (heap_new _ _ _ (by simp))), blk_old _ (heap_new _ _ _ (by simp)), heap_new _ _ _ (by simp), by simp, by go_grown⟩ ?_
  rintro W ⟨hA0, hA1, hR, hO, hz, hb⟩
  refine wp_loop_rounds 4 ?_
  rw [rounds_succ]
  go_wp2
  have c0_0 := blk_cls (i := 0) (v := .int .i64 a0) hA0 rfl
  have c1_0 := blk_cls (i := 0) (v := .int .i64 b0) hA1 rfl
  refine wp_region_cls_tail 9 (by kernel_rfl) (by kernel_rfl) ?_
  simp only [List.take_succ_cons, List.take_zero, List.drop_succ_cons, List.drop_zero]
  repeat (go_big_quiet_step ((first | (go_at_call 84; exact Cls.calls_same (radd_any _ _ _)))))
  refine wpQuiet_nil ?_
  rintro ⟨W1, hb1⟩
  replace hA0 := heap_below hb1 hA0
  replace hA1 := heap_below hb1 hA1
  replace hR := heap_below hb1 hR
  replace hO := heap_below hb1 hO
  replace hz : w.heap.size + 1 + 1 + 1 < W1.heap.size := Nat.lt_of_lt_of_le hz hb1.size
  replace hb := below_then hb1 hb
  dsimp only
  clear hb1 c0_0 c1_0
  have f := blk_free (i := 0) hO
  have c := blk_cell (i := 0) (v := .int .i64 0) hO rfl
  go_wp2
  clear f c
  refine wp_rounds_world (fun W => W.heap[w.heap.size]? = some (.cells #[.int .i64 a0, .int .i64 a1, .int .i64 a2] 23 (0, 0)) ∧ W.heap[w.heap.size + 1]? = some (.cells #[.int .i64 b0, .int .i64 b1, .int .i64 b2] 23 (0, 0)) ∧ W.heap[w.heap.size + 1 + 1]? = some (.cells #[.int .i64 0, .int .i64 0, .int .i64 0] 23 (0, 0)) ∧ W.heap[w.heap.size + 1 + 1 + 1]? = some (.cells #[.int .i64 (addS a0 b0), .int .i64 0, .int .i64 0] 23 (0, 0)) ∧ w.heap.size + 1 + 1 + 1 < W.heap.size ∧ Below w.heap.size w W) ⟨blk_other _ hA0 (by simp; try omega), blk_other _ hA1 (by simp; try omega), blk_other _ hR (by simp), (blk_set _ hO), by simpa using hz, hb.setCell (by simp; try omega) _⟩ ?_
  clear hA0 hA1 hR hO hz hb W
  rintro W ⟨hA0, hA1, hR, hO, hz, hb⟩
  rw [rounds_succ]
  go_wp2
  have c0_1 := blk_cls (i := 1) (v := .int .i64 a1) hA0 rfl
  have c1_1 := blk_cls (i := 1) (v := .int .i64 b1) hA1 rfl
  refine wp_region_cls_tail 9 (by kernel_rfl) (by kernel_rfl) ?_
  simp only [List.take_succ_cons, List.take_zero, List.drop_succ_cons, List.drop_zero]
  repeat (go_big_quiet_step ((first | (go_at_call 84; exact Cls.calls_same (radd_any _ _ _)))))
  refine wpQuiet_nil ?_
  rintro ⟨W1, hb1⟩
  replace hA0 := heap_below hb1 hA0
  replace hA1 := heap_below hb1 hA1
  replace hR := heap_below hb1 hR
  replace hO := heap_below hb1 hO
  replace hz : w.heap.size + 1 + 1 + 1 < W1.heap.size := Nat.lt_of_lt_of_le hz hb1.size
  replace hb := below_then hb1 hb
  dsimp only
  clear hb1 c0_1 c1_1
  have f := blk_free (i := 1) hO
  have c := blk_cell (i := 1) (v := .int .i64 0) hO rfl
  go_wp2
  clear f c
  refine wp_rounds_world (fun W => W.heap[w.heap.size]? = some (.cells #[.int .i64 a0, .int .i64 a1, .int .i64 a2] 23 (0, 0)) ∧ W.heap[w.heap.size + 1]? = some (.cells #[.int .i64 b0, .int .i64 b1, .int .i64 b2] 23 (0, 0)) ∧ W.heap[w.heap.size + 1 + 1]? = some (.cells #[.int .i64 0, .int .i64 0, .int .i64 0] 23 (0, 0)) ∧ W.heap[w.heap.size + 1 + 1 + 1]? = some (.cells #[.int .i64 (addS a0 b0), .int .i64 (addS a1 b1), .int .i64 0] 23 (0, 0)) ∧ w.heap.size + 1 + 1 + 1 < W.heap.size ∧ Below w.heap.size w W) ⟨blk_other _ hA0 (by simp; try omega), blk_other _ hA1 (by simp; try omega), blk_other _ hR (by simp), (blk_set _ hO), by simpa using hz, hb.setCell (by simp; try omega) _⟩ ?_
  clear hA0 hA1 hR hO hz hb W
  rintro W ⟨hA0, hA1, hR, hO, hz, hb⟩
  rw [rounds_succ]
  go_wp2
  have c0_2 := blk_cls (i := 2) (v := .int .i64 a2) hA0 rfl
  have c1_2 := blk_cls (i := 2) (v := .int .i64 b2) hA1 rfl
  refine wp_region_cls_tail 9 (by kernel_rfl) (by kernel_rfl) ?_
  simp only [List.take_succ_cons, List.take_zero, List.drop_succ_cons, List.drop_zero]
  repeat (go_big_quiet_step ((first | (go_at_call 84; exact Cls.calls_same (radd_any _ _ _)))))
  refine wpQuiet_nil ?_
  rintro ⟨W1, hb1⟩
  replace hA0 := heap_below hb1 hA0
  replace hA1 := heap_below hb1 hA1
  replace hR := heap_below hb1 hR
  replace hO := heap_below hb1 hO
  replace hz : w.heap.size + 1 + 1 + 1 < W1.heap.size := Nat.lt_of_lt_of_le hz hb1.size
  replace hb := below_then hb1 hb
  dsimp only
  clear hb1 c0_2 c1_2
  have f := blk_free (i := 2) hO
  have c := blk_cell (i := 2) (v := .int .i64 0) hO rfl
  go_wp2
  clear f c
  refine wp_rounds_world (fun W => W.heap[w.heap.size]? = some (.cells #[.int .i64 a0, .int .i64 a1, .int .i64 a2] 23 (0, 0)) ∧ W.heap[w.heap.size + 1]? = some (.cells #[.int .i64 b0, .int .i64 b1, .int .i64 b2] 23 (0, 0)) ∧ W.heap[w.heap.size + 1 + 1]? = some (.cells #[.int .i64 0, .int .i64 0, .int .i64 0] 23 (0, 0)) ∧ W.heap[w.heap.size + 1 + 1 + 1]? = some (.cells #[.int .i64 (addS a0 b0), .int .i64 (addS a1 b1), .int .i64 (addS a2 b2)] 23 (0, 0)) ∧ w.heap.size + 1 + 1 + 1 < W.heap.size ∧ Below w.heap.size w W) ⟨blk_other _ hA0 (by simp; try omega), blk_other _ hA1 (by simp; try omega), blk_other _ hR (by simp), (blk_set _ hO), by simpa using hz, hb.setCell (by simp; try omega) _⟩ ?_
  clear hA0 hA1 hR hO hz hb W
  rintro W ⟨hA0, hA1, hR, hO, hz, hb⟩
  rw [rounds_succ]
  have o0 := blk_cell (i := 0) (v := .int .i64 (addS a0 b0)) hO rfl
  have r0 := blk_cell (i := 0) (v := .int .i64 0) hR rfl
  have f0 := blk_free (i := 0) hR
  have o1 := blk_cell (i := 1) (v := .int .i64 (addS a1 b1)) hO rfl
  have r1 := blk_cell (i := 1) (v := .int .i64 0) hR rfl
  have f1 := blk_free (i := 1) hR
  have o2 := blk_cell (i := 2) (v := .int .i64 (addS a2 b2)) hO rfl
  have r2 := blk_cell (i := 2) (v := .int .i64 0) hR rfl
  have f2 := blk_free (i := 2) hR
  go_wp2
  refine bodyPost_ret (v := .agg #[.int .i64 (addS a0 b0), .int .i64 (addS a1 b1), .int .i64 (addS a2 b2)]) (by simp [results, Try.results19, go_sem, r0, r1, r2]) rfl ⟨rfl, ?_⟩
  exact ((hb.setCell (by simp; try omega) _).setCell (by simp; try omega) _).setCell (by simp; try omega) _

theorem rvsub_any (a0 a1 a2 b0 b1 b2 : Int) (w : World) :
    Calls Try.prog 21 #[.agg #[.int .i64 a0, .int .i64 a1, .int .i64 a2], .agg #[.int .i64 b0, .int .i64 b1, .int .i64 b2]] w
      fun e w' => e = .returned (.agg #[.int .i64 (subS a0 b0), .int .i64 (subS a1 b1), .int .i64 (subS a2 b2)]) ∧ Below w.heap.size w w' := by
  go_enter Try.func21, Try.ntmps21
  go_wp2
  refine wp_world (fun W => W.heap[w.heap.size]? = some (.cells #[.int .i64 a0, .int .i64 a1, .int .i64 a2] 23 (0, 0)) ∧ W.heap[w.heap.size + 1]? = some (.cells #[.int .i64 b0, .int .i64 b1, .int .i64 b2] 23 (0, 0)) ∧ W.heap[w.heap.size + 1 + 1]? = some (.cells #[.int .i64 0, .int .i64 0, .int .i64 0] 23 (0, 0)) ∧ W.heap[w.heap.size + 1 + 1 + 1]? = some (.cells #[.int .i64 0, .int .i64 0, .int .i64 0] 23 (0, 0)) ∧ w.heap.size + 1 + 1 + 1 < W.heap.size ∧ Below w.heap.size w W) ⟨blk_old _ (blk_old _ (blk_old _ (heap_new _ _ _ (by simp)))), blk_old _ (blk_old _ (heap_new _ _ _ (by simp))), blk_old _ (heap_new _ _ _ (by simp)), heap_new _ _ _ (by simp), by simp, by go_grown⟩ ?_
  rintro W ⟨hA0, hA1, hR, hO, hz, hb⟩
  refine wp_loop_rounds 4 ?_
  rw [rounds_succ]
  go_wp2
  have c0_0 := blk_cls (i := 0) (v := .int .i64 a0) hA0 rfl
  have c1_0 := blk_cls (i := 0) (v := .int .i64 b0) hA1 rfl
  refine wp_region_cls_tail 9 (by kernel_rfl) (by kernel_rfl) ?_
  simp only [List.take_succ_cons, List.take_zero, List.drop_succ_cons, List.drop_zero]
  repeat (go_big_quiet_step ((first | (go_at_call 86; exact Cls.calls_same (rsub_any _ _ _)))))
  refine wpQuiet_nil ?_
  rintro ⟨W1, hb1⟩
  replace hA0 := heap_below hb1 hA0
  replace hA1 := heap_below hb1 hA1
  replace hR := heap_below hb1 hR
  replace hO := heap_below hb1 hO
  replace hz : w.heap.size + 1 + 1 + 1 < W1.heap.size := Nat.lt_of_lt_of_le hz hb1.size
  replace hb := below_then hb1 hb
  dsimp only
  clear hb1 c0_0 c1_0
  have f := blk_free (i := 0) hO
  have c := blk_cell (i := 0) (v := .int .i64 0) hO rfl
  go_wp2
  clear f c
  refine wp_rounds_world (fun W => W.heap[w.heap.size]? = some (.cells #[.int .i64 a0, .int .i64 a1, .int .i64 a2] 23 (0, 0)) ∧ W.heap[w.heap.size + 1]? = some (.cells #[.int .i64 b0, .int .i64 b1, .int .i64 b2] 23 (0, 0)) ∧ W.heap[w.heap.size + 1 + 1]? = some (.cells #[.int .i64 0, .int .i64 0, .int .i64 0] 23 (0, 0)) ∧ W.heap[w.heap.size + 1 + 1 + 1]? = some (.cells #[.int .i64 (subS a0 b0), .int .i64 0, .int .i64 0] 23 (0, 0)) ∧ w.heap.size + 1 + 1 + 1 < W.heap.size ∧ Below w.heap.size w W) ⟨blk_other _ hA0 (by simp; try omega), blk_other _ hA1 (by simp; try omega), blk_other _ hR (by simp), (blk_set _ hO), by simpa using hz, hb.setCell (by simp; try omega) _⟩ ?_
  clear hA0 hA1 hR hO hz hb W
  rintro W ⟨hA0, hA1, hR, hO, hz, hb⟩
  rw [rounds_succ]
  go_wp2
  have c0_1 := blk_cls (i := 1) (v := .int .i64 a1) hA0 rfl
  have c1_1 := blk_cls (i := 1) (v := .int .i64 b1) hA1 rfl
  refine wp_region_cls_tail 9 (by kernel_rfl) (by kernel_rfl) ?_
  simp only [List.take_succ_cons, List.take_zero, List.drop_succ_cons, List.drop_zero]
  repeat (go_big_quiet_step ((first | (go_at_call 86; exact Cls.calls_same (rsub_any _ _ _)))))
  refine wpQuiet_nil ?_
  rintro ⟨W1, hb1⟩
  replace hA0 := heap_below hb1 hA0
  replace hA1 := heap_below hb1 hA1
  replace hR := heap_below hb1 hR
  replace hO := heap_below hb1 hO
  replace hz : w.heap.size + 1 + 1 + 1 < W1.heap.size := Nat.lt_of_lt_of_le hz hb1.size
  replace hb := below_then hb1 hb
  dsimp only
  clear hb1 c0_1 c1_1
  have f := blk_free (i := 1) hO
  have c := blk_cell (i := 1) (v := .int .i64 0) hO rfl
  go_wp2
  clear f c
  refine wp_rounds_world (fun W => W.heap[w.heap.size]? = some (.cells #[.int .i64 a0, .int .i64 a1, .int .i64 a2] 23 (0, 0)) ∧ W.heap[w.heap.size + 1]? = some (.cells #[.int .i64 b0, .int .i64 b1, .int .i64 b2] 23 (0, 0)) ∧ W.heap[w.heap.size + 1 + 1]? = some (.cells #[.int .i64 0, .int .i64 0, .int .i64 0] 23 (0, 0)) ∧ W.heap[w.heap.size + 1 + 1 + 1]? = some (.cells #[.int .i64 (subS a0 b0), .int .i64 (subS a1 b1), .int .i64 0] 23 (0, 0)) ∧ w.heap.size + 1 + 1 + 1 < W.heap.size ∧ Below w.heap.size w W) ⟨blk_other _ hA0 (by simp; try omega), blk_other _ hA1 (by simp; try omega), blk_other _ hR (by simp), (blk_set _ hO), by simpa using hz, hb.setCell (by simp; try omega) _⟩ ?_
  clear hA0 hA1 hR hO hz hb W
  rintro W ⟨hA0, hA1, hR, hO, hz, hb⟩
  rw [rounds_succ]
  go_wp2
  have c0_2 := blk_cls (i := 2) (v := .int .i64 a2) hA0 rfl
  have c1_2 := blk_cls (i := 2) (v := .int .i64 b2) hA1 rfl
  refine wp_region_cls_tail 9 (by kernel_rfl) (by kernel_rfl) ?_
  simp only [List.take_succ_cons, List.take_zero, List.drop_succ_cons, List.drop_zero]
  repeat (go_big_quiet_step ((first | (go_at_call 86; exact Cls.calls_same (rsub_any _ _ _)))))
  refine wpQuiet_nil ?_
  rintro ⟨W1, hb1⟩
  replace hA0 := heap_below hb1 hA0
  replace hA1 := heap_below hb1 hA1
  replace hR := heap_below hb1 hR
  replace hO := heap_below hb1 hO
  replace hz : w.heap.size + 1 + 1 + 1 < W1.heap.size := Nat.lt_of_lt_of_le hz hb1.size
  replace hb := below_then hb1 hb
  dsimp only
  clear hb1 c0_2 c1_2
  have f := blk_free (i := 2) hO
  have c := blk_cell (i := 2) (v := .int .i64 0) hO rfl
  go_wp2
  clear f c
  refine wp_rounds_world (fun W => W.heap[w.heap.size]? = some (.cells #[.int .i64 a0, .int .i64 a1, .int .i64 a2] 23 (0, 0)) ∧ W.heap[w.heap.size + 1]? = some (.cells #[.int .i64 b0, .int .i64 b1, .int .i64 b2] 23 (0, 0)) ∧ W.heap[w.heap.size + 1 + 1]? = some (.cells #[.int .i64 0, .int .i64 0, .int .i64 0] 23 (0, 0)) ∧ W.heap[w.heap.size + 1 + 1 + 1]? = some (.cells #[.int .i64 (subS a0 b0), .int .i64 (subS a1 b1), .int .i64 (subS a2 b2)] 23 (0, 0)) ∧ w.heap.size + 1 + 1 + 1 < W.heap.size ∧ Below w.heap.size w W) ⟨blk_other _ hA0 (by simp; try omega), blk_other _ hA1 (by simp; try omega), blk_other _ hR (by simp), (blk_set _ hO), by simpa using hz, hb.setCell (by simp; try omega) _⟩ ?_
  clear hA0 hA1 hR hO hz hb W
  rintro W ⟨hA0, hA1, hR, hO, hz, hb⟩
  rw [rounds_succ]
  have o0 := blk_cell (i := 0) (v := .int .i64 (subS a0 b0)) hO rfl
  have r0 := blk_cell (i := 0) (v := .int .i64 0) hR rfl
  have f0 := blk_free (i := 0) hR
  have o1 := blk_cell (i := 1) (v := .int .i64 (subS a1 b1)) hO rfl
  have r1 := blk_cell (i := 1) (v := .int .i64 0) hR rfl
  have f1 := blk_free (i := 1) hR
  have o2 := blk_cell (i := 2) (v := .int .i64 (subS a2 b2)) hO rfl
  have r2 := blk_cell (i := 2) (v := .int .i64 0) hR rfl
  have f2 := blk_free (i := 2) hR
  go_wp2
  refine bodyPost_ret (v := .agg #[.int .i64 (subS a0 b0), .int .i64 (subS a1 b1), .int .i64 (subS a2 b2)]) (by simp [results, Try.results21, go_sem, r0, r1, r2]) rfl ⟨rfl, ?_⟩
  exact ((hb.setCell (by simp; try omega) _).setCell (by simp; try omega) _).setCell (by simp; try omega) _

theorem rvscale_any (a0 a1 a2 s : Int) (w : World) :
    Calls Try.prog 24 #[.agg #[.int .i64 a0, .int .i64 a1, .int .i64 a2], .int .i64 s] w
      fun e w' => e = .returned (.agg #[.int .i64 (mulS a0 s), .int .i64 (mulS a1 s), .int .i64 (mulS a2 s)]) ∧ Below w.heap.size w w' := by
  go_enter Try.func24, Try.ntmps24
  go_wp2
  refine wp_world (fun W => W.heap[w.heap.size]? = some (.cells #[.int .i64 a0, .int .i64 a1, .int .i64 a2] 23 (0, 0)) ∧ W.heap[w.heap.size + 1]? = some (.cells #[.int .i64 0, .int .i64 0, .int .i64 0] 23 (0, 0)) ∧ W.heap[w.heap.size + 1 + 1]? = some (.cells #[.int .i64 0, .int .i64 0, .int .i64 0] 23 (0, 0)) ∧ w.heap.size + 1 + 1 < W.heap.size ∧ Below w.heap.size w W) ⟨blk_old _ (blk_old _ (heap_new _ _ _ (by simp))), blk_old _ (heap_new _ _ _ (by simp)), heap_new _ _ _ (by simp), by simp, by go_grown⟩ ?_
  rintro W ⟨hA0, hR, hO, hz, hb⟩
  refine wp_loop_rounds 4 ?_
  rw [rounds_succ]
  have c0_0 := blk_cell (i := 0) (v := .int .i64 a0) hA0 rfl
  have f := blk_free (i := 0) hO
  have c := blk_cell (i := 0) (v := .int .i64 0) hO rfl
  go_wp2_with (go_at_call 88; refine (rmul_any _ _ _).mono ?_; rintro e w' ⟨rfl, rfl⟩)
  clear f c c0_0
  refine wp_rounds_world (fun W => W.heap[w.heap.size]? = some (.cells #[.int .i64 a0, .int .i64 a1, .int .i64 a2] 23 (0, 0)) ∧ W.heap[w.heap.size + 1]? = some (.cells #[.int .i64 0, .int .i64 0, .int .i64 0] 23 (0, 0)) ∧ W.heap[w.heap.size + 1 + 1]? = some (.cells #[.int .i64 (mulS a0 s), .int .i64 0, .int .i64 0] 23 (0, 0)) ∧ w.heap.size + 1 + 1 < W.heap.size ∧ Below w.heap.size w W) ⟨blk_other _ hA0 (by simp; try omega), blk_other _ hR (by simp), (blk_set _ hO), by simpa using hz, hb.setCell (by simp; try omega) _⟩ ?_
  clear hA0 hR hO hz hb W
  rintro W ⟨hA0, hR, hO, hz, hb⟩
  rw [rounds_succ]
  have c0_1 := blk_cell (i := 1) (v := .int .i64 a1) hA0 rfl
  have f := blk_free (i := 1) hO
  have c := blk_cell (i := 1) (v := .int .i64 0) hO rfl
  go_wp2_with (go_at_call 88; refine (rmul_any _ _ _).mono ?_; rintro e w' ⟨rfl, rfl⟩)
  clear f c c0_1
  refine wp_rounds_world (fun W => W.heap[w.heap.size]? = some (.cells #[.int .i64 a0, .int .i64 a1, .int .i64 a2] 23 (0, 0)) ∧ W.heap[w.heap.size + 1]? = some (.cells #[.int .i64 0, .int .i64 0, .int .i64 0] 23 (0, 0)) ∧ W.heap[w.heap.size + 1 + 1]? = some (.cells #[.int .i64 (mulS a0 s), .int .i64 (mulS a1 s), .int .i64 0] 23 (0, 0)) ∧ w.heap.size + 1 + 1 < W.heap.size ∧ Below w.heap.size w W) ⟨blk_other _ hA0 (by simp; try omega), blk_other _ hR (by simp), (blk_set _ hO), by simpa using hz, hb.setCell (by simp; try omega) _⟩ ?_
  clear hA0 hR hO hz hb W
  rintro W ⟨hA0, hR, hO, hz, hb⟩
  rw [rounds_succ]
  have c0_2 := blk_cell (i := 2) (v := .int .i64 a2) hA0 rfl
  have f := blk_free (i := 2) hO
  have c := blk_cell (i := 2) (v := .int .i64 0) hO rfl
  go_wp2_with (go_at_call 88; refine (rmul_any _ _ _).mono ?_; rintro e w' ⟨rfl, rfl⟩)
  clear f c c0_2
  refine wp_rounds_world (fun W => W.heap[w.heap.size]? = some (.cells #[.int .i64 a0, .int .i64 a1, .int .i64 a2] 23 (0, 0)) ∧ W.heap[w.heap.size + 1]? = some (.cells #[.int .i64 0, .int .i64 0, .int .i64 0] 23 (0, 0)) ∧ W.heap[w.heap.size + 1 + 1]? = some (.cells #[.int .i64 (mulS a0 s), .int .i64 (mulS a1 s), .int .i64 (mulS a2 s)] 23 (0, 0)) ∧ w.heap.size + 1 + 1 < W.heap.size ∧ Below w.heap.size w W) ⟨blk_other _ hA0 (by simp; try omega), blk_other _ hR (by simp), (blk_set _ hO), by simpa using hz, hb.setCell (by simp; try omega) _⟩ ?_
  clear hA0 hR hO hz hb W
  rintro W ⟨hA0, hR, hO, hz, hb⟩
  rw [rounds_succ]
  have o0 := blk_cell (i := 0) (v := .int .i64 (mulS a0 s)) hO rfl
  have r0 := blk_cell (i := 0) (v := .int .i64 0) hR rfl
  have f0 := blk_free (i := 0) hR
  have o1 := blk_cell (i := 1) (v := .int .i64 (mulS a1 s)) hO rfl
  have r1 := blk_cell (i := 1) (v := .int .i64 0) hR rfl
  have f1 := blk_free (i := 1) hR
  have o2 := blk_cell (i := 2) (v := .int .i64 (mulS a2 s)) hO rfl
  have r2 := blk_cell (i := 2) (v := .int .i64 0) hR rfl
  have f2 := blk_free (i := 2) hR
  go_wp2
  refine bodyPost_ret (v := .agg #[.int .i64 (mulS a0 s), .int .i64 (mulS a1 s), .int .i64 (mulS a2 s)]) (by simp [results, Try.results24, go_sem, r0, r1, r2]) rfl ⟨rfl, ?_⟩
  exact ((hb.setCell (by simp; try omega) _).setCell (by simp; try omega) _).setCell (by simp; try omega) _

theorem rvmix_any (a0 a1 a2 b0 b1 b2 t : Int) (w : World) :
    Calls Try.prog 26 #[.agg #[.int .i64 a0, .int .i64 a1, .int .i64 a2], .agg #[.int .i64 b0, .int .i64 b1, .int .i64 b2], .int .i64 t] w
      fun e w' => e = .returned (.agg #[.int .i64 (lerpS a0 b0 t), .int .i64 (lerpS a1 b1 t), .int .i64 (lerpS a2 b2 t)]) ∧ Below w.heap.size w w' := by
  go_enter Try.func26, Try.ntmps26
  go_wp2
  refine wp_world (fun W => W.heap[w.heap.size]? = some (.cells #[.int .i64 a0, .int .i64 a1, .int .i64 a2] 23 (0, 0)) ∧ W.heap[w.heap.size + 1]? = some (.cells #[.int .i64 b0, .int .i64 b1, .int .i64 b2] 23 (0, 0)) ∧ W.heap[w.heap.size + 1 + 1]? = some (.cells #[.int .i64 0, .int .i64 0, .int .i64 0] 23 (0, 0)) ∧ W.heap[w.heap.size + 1 + 1 + 1]? = some (.cells #[.int .i64 0, .int .i64 0, .int .i64 0] 23 (0, 0)) ∧ w.heap.size + 1 + 1 + 1 < W.heap.size ∧ Below w.heap.size w W) ⟨blk_old _ (blk_old _ (blk_old _ (heap_new _ _ _ (by simp)))), blk_old _ (blk_old _ (heap_new _ _ _ (by simp))), blk_old _ (heap_new _ _ _ (by simp)), heap_new _ _ _ (by simp), by simp, by go_grown⟩ ?_
  rintro W ⟨hA0, hA1, hR, hO, hz, hb⟩
  refine wp_loop_rounds 4 ?_
  rw [rounds_succ]
  go_wp2
  have c0_0 := blk_cls (i := 0) (v := .int .i64 a0) hA0 rfl
  have c1_0 := blk_cls (i := 0) (v := .int .i64 b0) hA1 rfl
  refine wp_region_cls_tail 10 (by kernel_rfl) (by kernel_rfl) ?_
  simp only [List.take_succ_cons, List.take_zero, List.drop_succ_cons, List.drop_zero]
  repeat (go_big_quiet_step ((first | (go_at_call 91; exact Cls.calls_same (rlerp_any _ _ _ _)))))
  refine wpQuiet_nil ?_
  rintro ⟨W1, hb1⟩
  replace hA0 := heap_below hb1 hA0
  replace hA1 := heap_below hb1 hA1
  replace hR := heap_below hb1 hR
  replace hO := heap_below hb1 hO
  replace hz : w.heap.size + 1 + 1 + 1 < W1.heap.size := Nat.lt_of_lt_of_le hz hb1.size
  replace hb := below_then hb1 hb
  dsimp only
  clear hb1 c0_0 c1_0
  have f := blk_free (i := 0) hO
  have c := blk_cell (i := 0) (v := .int .i64 0) hO rfl
  go_wp2
  clear f c
  refine wp_rounds_world (fun W => W.heap[w.heap.size]? = some (.cells #[.int .i64 a0, .int .i64 a1, .int .i64 a2] 23 (0, 0)) ∧ W.heap[w.heap.size + 1]? = some (.cells #[.int .i64 b0, .int .i64 b1, .int .i64 b2] 23 (0, 0)) ∧ W.heap[w.heap.size + 1 + 1]? = some (.cells #[.int .i64 0, .int .i64 0, .int .i64 0] 23 (0, 0)) ∧ W.heap[w.heap.size + 1 + 1 + 1]? = some (.cells #[.int .i64 (lerpS a0 b0 t), .int .i64 0, .int .i64 0] 23 (0, 0)) ∧ w.heap.size + 1 + 1 + 1 < W.heap.size ∧ Below w.heap.size w W) ⟨blk_other _ hA0 (by simp; try omega), blk_other _ hA1 (by simp; try omega), blk_other _ hR (by simp), (blk_set _ hO), by simpa using hz, hb.setCell (by simp; try omega) _⟩ ?_
  clear hA0 hA1 hR hO hz hb W
  rintro W ⟨hA0, hA1, hR, hO, hz, hb⟩
  rw [rounds_succ]
  go_wp2
  have c0_1 := blk_cls (i := 1) (v := .int .i64 a1) hA0 rfl
  have c1_1 := blk_cls (i := 1) (v := .int .i64 b1) hA1 rfl
  refine wp_region_cls_tail 10 (by kernel_rfl) (by kernel_rfl) ?_
  simp only [List.take_succ_cons, List.take_zero, List.drop_succ_cons, List.drop_zero]
  repeat (go_big_quiet_step ((first | (go_at_call 91; exact Cls.calls_same (rlerp_any _ _ _ _)))))
  refine wpQuiet_nil ?_
  rintro ⟨W1, hb1⟩
  replace hA0 := heap_below hb1 hA0
  replace hA1 := heap_below hb1 hA1
  replace hR := heap_below hb1 hR
  replace hO := heap_below hb1 hO
  replace hz : w.heap.size + 1 + 1 + 1 < W1.heap.size := Nat.lt_of_lt_of_le hz hb1.size
  replace hb := below_then hb1 hb
  dsimp only
  clear hb1 c0_1 c1_1
  have f := blk_free (i := 1) hO
  have c := blk_cell (i := 1) (v := .int .i64 0) hO rfl
  go_wp2
  clear f c
  refine wp_rounds_world (fun W => W.heap[w.heap.size]? = some (.cells #[.int .i64 a0, .int .i64 a1, .int .i64 a2] 23 (0, 0)) ∧ W.heap[w.heap.size + 1]? = some (.cells #[.int .i64 b0, .int .i64 b1, .int .i64 b2] 23 (0, 0)) ∧ W.heap[w.heap.size + 1 + 1]? = some (.cells #[.int .i64 0, .int .i64 0, .int .i64 0] 23 (0, 0)) ∧ W.heap[w.heap.size + 1 + 1 + 1]? = some (.cells #[.int .i64 (lerpS a0 b0 t), .int .i64 (lerpS a1 b1 t), .int .i64 0] 23 (0, 0)) ∧ w.heap.size + 1 + 1 + 1 < W.heap.size ∧ Below w.heap.size w W) ⟨blk_other _ hA0 (by simp; try omega), blk_other _ hA1 (by simp; try omega), blk_other _ hR (by simp), (blk_set _ hO), by simpa using hz, hb.setCell (by simp; try omega) _⟩ ?_
  clear hA0 hA1 hR hO hz hb W
  rintro W ⟨hA0, hA1, hR, hO, hz, hb⟩
  rw [rounds_succ]
  go_wp2
  have c0_2 := blk_cls (i := 2) (v := .int .i64 a2) hA0 rfl
  have c1_2 := blk_cls (i := 2) (v := .int .i64 b2) hA1 rfl
  refine wp_region_cls_tail 10 (by kernel_rfl) (by kernel_rfl) ?_
  simp only [List.take_succ_cons, List.take_zero, List.drop_succ_cons, List.drop_zero]
  repeat (go_big_quiet_step ((first | (go_at_call 91; exact Cls.calls_same (rlerp_any _ _ _ _)))))
  refine wpQuiet_nil ?_
  rintro ⟨W1, hb1⟩
  replace hA0 := heap_below hb1 hA0
  replace hA1 := heap_below hb1 hA1
  replace hR := heap_below hb1 hR
  replace hO := heap_below hb1 hO
  replace hz : w.heap.size + 1 + 1 + 1 < W1.heap.size := Nat.lt_of_lt_of_le hz hb1.size
  replace hb := below_then hb1 hb
  dsimp only
  clear hb1 c0_2 c1_2
  have f := blk_free (i := 2) hO
  have c := blk_cell (i := 2) (v := .int .i64 0) hO rfl
  go_wp2
  clear f c
  refine wp_rounds_world (fun W => W.heap[w.heap.size]? = some (.cells #[.int .i64 a0, .int .i64 a1, .int .i64 a2] 23 (0, 0)) ∧ W.heap[w.heap.size + 1]? = some (.cells #[.int .i64 b0, .int .i64 b1, .int .i64 b2] 23 (0, 0)) ∧ W.heap[w.heap.size + 1 + 1]? = some (.cells #[.int .i64 0, .int .i64 0, .int .i64 0] 23 (0, 0)) ∧ W.heap[w.heap.size + 1 + 1 + 1]? = some (.cells #[.int .i64 (lerpS a0 b0 t), .int .i64 (lerpS a1 b1 t), .int .i64 (lerpS a2 b2 t)] 23 (0, 0)) ∧ w.heap.size + 1 + 1 + 1 < W.heap.size ∧ Below w.heap.size w W) ⟨blk_other _ hA0 (by simp; try omega), blk_other _ hA1 (by simp; try omega), blk_other _ hR (by simp), (blk_set _ hO), by simpa using hz, hb.setCell (by simp; try omega) _⟩ ?_
  clear hA0 hA1 hR hO hz hb W
  rintro W ⟨hA0, hA1, hR, hO, hz, hb⟩
  rw [rounds_succ]
  have o0 := blk_cell (i := 0) (v := .int .i64 (lerpS a0 b0 t)) hO rfl
  have r0 := blk_cell (i := 0) (v := .int .i64 0) hR rfl
  have f0 := blk_free (i := 0) hR
  have o1 := blk_cell (i := 1) (v := .int .i64 (lerpS a1 b1 t)) hO rfl
  have r1 := blk_cell (i := 1) (v := .int .i64 0) hR rfl
  have f1 := blk_free (i := 1) hR
  have o2 := blk_cell (i := 2) (v := .int .i64 (lerpS a2 b2 t)) hO rfl
  have r2 := blk_cell (i := 2) (v := .int .i64 0) hR rfl
  have f2 := blk_free (i := 2) hR
  go_wp2
  refine bodyPost_ret (v := .agg #[.int .i64 (lerpS a0 b0 t), .int .i64 (lerpS a1 b1 t), .int .i64 (lerpS a2 b2 t)]) (by simp [results, Try.results26, go_sem, r0, r1, r2]) rfl ⟨rfl, ?_⟩
  exact ((hb.setCell (by simp; try omega) _).setCell (by simp; try omega) _).setCell (by simp; try omega) _

theorem each_add (a0 a1 a2 b0 b1 b2 : Int) (w : World) :
    Calls Try.prog 82 #[.agg #[.int .i64 a0, .int .i64 a1, .int .i64 a2], .agg #[.int .i64 b0, .int .i64 b1, .int .i64 b2], .func (.func 83) #[] #[]] w
      fun e w' => e = .returned (.agg #[.int .i64 (addS a0 b0), .int .i64 (addS a1 b1), .int .i64 (addS a2 b2)]) ∧ Below w.heap.size w w' := by
  go_enter Try.func82, Try.ntmps82
  go_wp2
  refine wp_world (fun W => W.heap[w.heap.size]? = some (.cells #[.int .i64 a0, .int .i64 a1, .int .i64 a2] 26 (0, 0)) ∧ W.heap[w.heap.size + 1]? = some (.cells #[.int .i64 b0, .int .i64 b1, .int .i64 b2] 26 (0, 0)) ∧ W.heap[w.heap.size + 1 + 1]? = some (.cells #[.int .i64 0, .int .i64 0, .int .i64 0] 26 (0, 0)) ∧ w.heap.size + 1 + 1 < W.heap.size ∧ Below w.heap.size w W) ⟨blk_old _ (blk_old _ (heap_new _ _ _ (by simp))), blk_old _ (heap_new _ _ _ (by simp)), heap_new _ _ _ (by simp), by simp, by go_grown⟩ ?_
  rintro W ⟨hA0, hA1, hR, hz, hb⟩
  have c0_0 := blk_cls (i := 0) (v := .int .i64 a0) hA0 rfl
  have c0_1 := blk_cls (i := 1) (v := .int .i64 a1) hA0 rfl
  have c0_2 := blk_cls (i := 2) (v := .int .i64 a2) hA0 rfl
  have c1_0 := blk_cls (i := 0) (v := .int .i64 b0) hA1 rfl
  have c1_1 := blk_cls (i := 1) (v := .int .i64 b1) hA1 rfl
  have c1_2 := blk_cls (i := 2) (v := .int .i64 b2) hA1 rfl
  refine wp_region_cls_tail 19 (by kernel_rfl) (by kernel_rfl) ?_
  simp only [List.take_succ_cons, List.take_zero, List.drop_succ_cons, List.drop_zero]
  repeat (go_big_quiet_step ((first | (go_at_call 83; exact Cls.calls_same (fadd_any _ _ _)))))
  refine wpQuiet_nil ?_
  rintro ⟨W1, hb1⟩
  replace hR := heap_below hb1 hR
  replace hb := below_then hb1 hb
  dsimp only
  clear hb1 hz c0_0 c0_1 c0_2 c1_0 c1_1 c1_2 hA0 hA1
  have r0 := blk_cell (i := 0) (v := .int .i64 0) hR rfl
  have f0 := blk_free (i := 0) hR
  have r1 := blk_cell (i := 1) (v := .int .i64 0) hR rfl
  have f1 := blk_free (i := 1) hR
  have r2 := blk_cell (i := 2) (v := .int .i64 0) hR rfl
  have f2 := blk_free (i := 2) hR
  go_wp2
  refine bodyPost_ret (v := .agg #[.int .i64 (addS a0 b0), .int .i64 (addS a1 b1), .int .i64 (addS a2 b2)]) (by simp [results, Try.results82, go_sem, r0, r1, r2]) rfl ⟨rfl, ?_⟩
  exact (((hb.setCell (by simp; try omega) _).setCell (by simp; try omega) _).setCell (by simp; try omega) _)

theorem each_sub (a0 a1 a2 b0 b1 b2 : Int) (w : World) :
    Calls Try.prog 82 #[.agg #[.int .i64 a0, .int .i64 a1, .int .i64 a2], .agg #[.int .i64 b0, .int .i64 b1, .int .i64 b2], .func (.func 85) #[] #[]] w
      fun e w' => e = .returned (.agg #[.int .i64 (subS a0 b0), .int .i64 (subS a1 b1), .int .i64 (subS a2 b2)]) ∧ Below w.heap.size w w' := by
  go_enter Try.func82, Try.ntmps82
  go_wp2
  refine wp_world (fun W => W.heap[w.heap.size]? = some (.cells #[.int .i64 a0, .int .i64 a1, .int .i64 a2] 26 (0, 0)) ∧ W.heap[w.heap.size + 1]? = some (.cells #[.int .i64 b0, .int .i64 b1, .int .i64 b2] 26 (0, 0)) ∧ W.heap[w.heap.size + 1 + 1]? = some (.cells #[.int .i64 0, .int .i64 0, .int .i64 0] 26 (0, 0)) ∧ w.heap.size + 1 + 1 < W.heap.size ∧ Below w.heap.size w W) ⟨blk_old _ (blk_old _ (heap_new _ _ _ (by simp))), blk_old _ (heap_new _ _ _ (by simp)), heap_new _ _ _ (by simp), by simp, by go_grown⟩ ?_
  rintro W ⟨hA0, hA1, hR, hz, hb⟩
  have c0_0 := blk_cls (i := 0) (v := .int .i64 a0) hA0 rfl
  have c0_1 := blk_cls (i := 1) (v := .int .i64 a1) hA0 rfl
  have c0_2 := blk_cls (i := 2) (v := .int .i64 a2) hA0 rfl
  have c1_0 := blk_cls (i := 0) (v := .int .i64 b0) hA1 rfl
  have c1_1 := blk_cls (i := 1) (v := .int .i64 b1) hA1 rfl
  have c1_2 := blk_cls (i := 2) (v := .int .i64 b2) hA1 rfl
  refine wp_region_cls_tail 19 (by kernel_rfl) (by kernel_rfl) ?_
  simp only [List.take_succ_cons, List.take_zero, List.drop_succ_cons, List.drop_zero]
  repeat (go_big_quiet_step ((first | (go_at_call 85; exact Cls.calls_same (fsub_any _ _ _)))))
  refine wpQuiet_nil ?_
  rintro ⟨W1, hb1⟩
  replace hR := heap_below hb1 hR
  replace hb := below_then hb1 hb
  dsimp only
  clear hb1 hz c0_0 c0_1 c0_2 c1_0 c1_1 c1_2 hA0 hA1
  have r0 := blk_cell (i := 0) (v := .int .i64 0) hR rfl
  have f0 := blk_free (i := 0) hR
  have r1 := blk_cell (i := 1) (v := .int .i64 0) hR rfl
  have f1 := blk_free (i := 1) hR
  have r2 := blk_cell (i := 2) (v := .int .i64 0) hR rfl
  have f2 := blk_free (i := 2) hR
  go_wp2
  refine bodyPost_ret (v := .agg #[.int .i64 (subS a0 b0), .int .i64 (subS a1 b1), .int .i64 (subS a2 b2)]) (by simp [results, Try.results82, go_sem, r0, r1, r2]) rfl ⟨rfl, ?_⟩
  exact (((hb.setCell (by simp; try omega) _).setCell (by simp; try omega) _).setCell (by simp; try omega) _)

theorem vadd_any (a0 a1 a2 b0 b1 b2 : Int) (w : World) :
    Calls Try.prog 18 #[.agg #[.int .i64 a0, .int .i64 a1, .int .i64 a2], .agg #[.int .i64 b0, .int .i64 b1, .int .i64 b2]] w
      fun e w' => e = .returned (.agg #[.int .i64 (addS a0 b0), .int .i64 (addS a1 b1), .int .i64 (addS a2 b2)]) ∧ Below w.heap.size w w' := by
  go_enter Try.func18, Try.ntmps18
  go_wp2_with fail
  refine calls_world (fun W => W.heap[w.heap.size]? = some (.cells #[.int .i64 a0, .int .i64 a1, .int .i64 a2] 26 (0, 0)) ∧ W.heap[w.heap.size + 1]? = some (.cells #[.int .i64 b0, .int .i64 b1, .int .i64 b2] 26 (0, 0)) ∧ W.heap[w.heap.size + 1 + 1]? = some (.cells #[.int .i64 0, .int .i64 0, .int .i64 0] 26 (0, 0)) ∧ w.heap.size + 1 + 1 < W.heap.size ∧ Below w.heap.size w W) ⟨blk_old _ (blk_old _ (heap_new _ _ _ (by simp))), blk_old _ (heap_new _ _ _ (by simp)), heap_new _ _ _ (by simp), by simp, by go_grown⟩ ?_
  rintro W ⟨hA0, hA1, hR, hz, hb⟩
  refine (each_add _ _ _ _ _ _ _).mono ?_
  rintro e W1 ⟨rfl, hb1⟩
  replace hR := heap_below hb1 hR
  replace hb := below_then hb1 hb
  clear hb1 hz hA0 hA1
  have r0 := blk_cell (i := 0) (v := .int .i64 0) hR rfl
  have f0 := blk_free (i := 0) hR
  have r1 := blk_cell (i := 1) (v := .int .i64 0) hR rfl
  have f1 := blk_free (i := 1) hR
  have r2 := blk_cell (i := 2) (v := .int .i64 0) hR rfl
  have f2 := blk_free (i := 2) hR
  go_wp2
  refine bodyPost_ret (v := .agg #[.int .i64 (addS a0 b0), .int .i64 (addS a1 b1), .int .i64 (addS a2 b2)]) (by simp [results, Try.results18, go_sem, r0, r1, r2]) rfl ⟨rfl, ?_⟩
  exact (((hb.setCell (by simp; try omega) _).setCell (by simp; try omega) _).setCell (by simp; try omega) _)

theorem vsub_any (a0 a1 a2 b0 b1 b2 : Int) (w : World) :
    Calls Try.prog 20 #[.agg #[.int .i64 a0, .int .i64 a1, .int .i64 a2], .agg #[.int .i64 b0, .int .i64 b1, .int .i64 b2]] w
      fun e w' => e = .returned (.agg #[.int .i64 (subS a0 b0), .int .i64 (subS a1 b1), .int .i64 (subS a2 b2)]) ∧ Below w.heap.size w w' := by
  go_enter Try.func20, Try.ntmps20
  go_wp2_with fail
  refine calls_world (fun W => W.heap[w.heap.size]? = some (.cells #[.int .i64 a0, .int .i64 a1, .int .i64 a2] 26 (0, 0)) ∧ W.heap[w.heap.size + 1]? = some (.cells #[.int .i64 b0, .int .i64 b1, .int .i64 b2] 26 (0, 0)) ∧ W.heap[w.heap.size + 1 + 1]? = some (.cells #[.int .i64 0, .int .i64 0, .int .i64 0] 26 (0, 0)) ∧ w.heap.size + 1 + 1 < W.heap.size ∧ Below w.heap.size w W) ⟨blk_old _ (blk_old _ (heap_new _ _ _ (by simp))), blk_old _ (heap_new _ _ _ (by simp)), heap_new _ _ _ (by simp), by simp, by go_grown⟩ ?_
  rintro W ⟨hA0, hA1, hR, hz, hb⟩
  refine (each_sub _ _ _ _ _ _ _).mono ?_
  rintro e W1 ⟨rfl, hb1⟩
  replace hR := heap_below hb1 hR
  replace hb := below_then hb1 hb
  clear hb1 hz hA0 hA1
  have r0 := blk_cell (i := 0) (v := .int .i64 0) hR rfl
  have f0 := blk_free (i := 0) hR
  have r1 := blk_cell (i := 1) (v := .int .i64 0) hR rfl
  have f1 := blk_free (i := 1) hR
  have r2 := blk_cell (i := 2) (v := .int .i64 0) hR rfl
  have f2 := blk_free (i := 2) hR
  go_wp2
  refine bodyPost_ret (v := .agg #[.int .i64 (subS a0 b0), .int .i64 (subS a1 b1), .int .i64 (subS a2 b2)]) (by simp [results, Try.results20, go_sem, r0, r1, r2]) rfl ⟨rfl, ?_⟩
  exact (((hb.setCell (by simp; try omega) _).setCell (by simp; try omega) _).setCell (by simp; try omega) _)

theorem vscale_any (a0 a1 a2 s : Int) (w : World) :
    Calls Try.prog 23 #[.agg #[.int .i64 a0, .int .i64 a1, .int .i64 a2], .int .i64 s] w
      fun e w' => e = .returned (.agg #[.int .i64 (mulS a0 s), .int .i64 (mulS a1 s), .int .i64 (mulS a2 s)]) ∧ Below w.heap.size w w' := by
  go_enter Try.func23, Try.ntmps23
  go_wp2
  refine wp_world (fun W => W.heap[w.heap.size]? = some (.cells #[.int .i64 a0, .int .i64 a1, .int .i64 a2] 26 (0, 0)) ∧ W.heap[w.heap.size + 1]? = some (.cells #[.int .i64 0, .int .i64 0, .int .i64 0] 26 (0, 0)) ∧ w.heap.size + 1 < W.heap.size ∧ Below w.heap.size w W) ⟨blk_old _ (heap_new _ _ _ (by simp)), heap_new _ _ _ (by simp), by simp, by go_grown⟩ ?_
  rintro W ⟨hA0, hR, hz, hb⟩
  have c0_0 := blk_cls (i := 0) (v := .int .i64 a0) hA0 rfl
  have c0_1 := blk_cls (i := 1) (v := .int .i64 a1) hA0 rfl
  have c0_2 := blk_cls (i := 2) (v := .int .i64 a2) hA0 rfl
  refine wp_region_cls_tail 13 (by kernel_rfl) (by kernel_rfl) ?_
  simp only [List.take_succ_cons, List.take_zero, List.drop_succ_cons, List.drop_zero]
  repeat (go_big_quiet_step ((first | (go_at_call 87; exact Cls.calls_same (fmul_any _ _ _)))))
  refine wpQuiet_nil ?_
  rintro ⟨W1, hb1⟩
  replace hR := heap_below hb1 hR
  replace hb := below_then hb1 hb
  dsimp only
  clear hb1 hz c0_0 c0_1 c0_2 hA0
  have r0 := blk_cell (i := 0) (v := .int .i64 0) hR rfl
  have f0 := blk_free (i := 0) hR
  have r1 := blk_cell (i := 1) (v := .int .i64 0) hR rfl
  have f1 := blk_free (i := 1) hR
  have r2 := blk_cell (i := 2) (v := .int .i64 0) hR rfl
  have f2 := blk_free (i := 2) hR
  go_wp2
  refine bodyPost_ret (v := .agg #[.int .i64 (mulS a0 s), .int .i64 (mulS a1 s), .int .i64 (mulS a2 s)]) (by simp [results, Try.results23, go_sem, r0, r1, r2]) rfl ⟨rfl, ?_⟩
  exact (((hb.setCell (by simp; try omega) _).setCell (by simp; try omega) _).setCell (by simp; try omega) _)

theorem vcross_any (a0 a1 a2 b0 b1 b2 : Int) (w : World) :
    Calls Try.prog 51 #[.agg #[.int .i64 a0, .int .i64 a1, .int .i64 a2], .agg #[.int .i64 b0, .int .i64 b1, .int .i64 b2]] w
      fun e w' => e = .returned (.agg #[.int .i64 (subS (mulS a1 b2) (mulS a2 b1)), .int .i64 (subS (mulS a2 b0) (mulS a0 b2)), .int .i64 (subS (mulS a0 b1) (mulS a1 b0))]) ∧ Below w.heap.size w w' := by
  go_enter Try.func51, Try.ntmps51
  go_wp2
  refine wp_world (fun W => W.heap[w.heap.size]? = some (.cells #[.int .i64 a0, .int .i64 a1, .int .i64 a2] 26 (0, 0)) ∧ W.heap[w.heap.size + 1]? = some (.cells #[.int .i64 b0, .int .i64 b1, .int .i64 b2] 26 (0, 0)) ∧ W.heap[w.heap.size + 1 + 1]? = some (.cells #[.int .i64 0, .int .i64 0, .int .i64 0] 26 (0, 0)) ∧ w.heap.size + 1 + 1 < W.heap.size ∧ Below w.heap.size w W) ⟨blk_old _ (blk_old _ (heap_new _ _ _ (by simp))), blk_old _ (heap_new _ _ _ (by simp)), heap_new _ _ _ (by simp), by simp, by go_grown⟩ ?_
  rintro W ⟨hA0, hA1, hR, hz, hb⟩
  have c0_0 := blk_cls (i := 0) (v := .int .i64 a0) hA0 rfl
  have c0_1 := blk_cls (i := 1) (v := .int .i64 a1) hA0 rfl
  have c0_2 := blk_cls (i := 2) (v := .int .i64 a2) hA0 rfl
  have c1_0 := blk_cls (i := 0) (v := .int .i64 b0) hA1 rfl
  have c1_1 := blk_cls (i := 1) (v := .int .i64 b1) hA1 rfl
  have c1_2 := blk_cls (i := 2) (v := .int .i64 b2) hA1 rfl
  refine wp_region_cls_tail 34 (by kernel_rfl) (by kernel_rfl) ?_
  simp only [List.take_succ_cons, List.take_zero, List.drop_succ_cons, List.drop_zero]
  repeat (go_big_quiet_step ((first | (go_at_call 87; exact Cls.calls_same (fmul_any _ _ _)) | (go_at_call 85; exact Cls.calls_same (fsub_any _ _ _)))))
  refine wpQuiet_nil ?_
  rintro ⟨W1, hb1⟩
  replace hR := heap_below hb1 hR
  replace hb := below_then hb1 hb
  dsimp only
  clear hb1 hz c0_0 c0_1 c0_2 c1_0 c1_1 c1_2 hA0 hA1
  have r0 := blk_cell (i := 0) (v := .int .i64 0) hR rfl
  have f0 := blk_free (i := 0) hR
  have r1 := blk_cell (i := 1) (v := .int .i64 0) hR rfl
  have f1 := blk_free (i := 1) hR
  have r2 := blk_cell (i := 2) (v := .int .i64 0) hR rfl
  have f2 := blk_free (i := 2) hR
  go_wp2
  refine bodyPost_ret (v := .agg #[.int .i64 (subS (mulS a1 b2) (mulS a2 b1)), .int .i64 (subS (mulS a2 b0) (mulS a0 b2)), .int .i64 (subS (mulS a0 b1) (mulS a1 b0))]) (by simp [results, Try.results51, go_sem, r0, r1, r2]) rfl ⟨rfl, ?_⟩
  exact (((hb.setCell (by simp; try omega) _).setCell (by simp; try omega) _).setCell (by simp; try omega) _)

theorem rvcross_any (a0 a1 a2 b0 b1 b2 : Int) (w : World) :
    Calls Try.prog 52 #[.agg #[.int .i64 a0, .int .i64 a1, .int .i64 a2], .agg #[.int .i64 b0, .int .i64 b1, .int .i64 b2]] w
      fun e w' => e = .returned (.agg #[.int .i64 (subS (mulS a1 b2) (mulS a2 b1)), .int .i64 (subS (mulS a2 b0) (mulS a0 b2)), .int .i64 (subS (mulS a0 b1) (mulS a1 b0))]) ∧ Below w.heap.size w w' := by
  go_enter Try.func52, Try.ntmps52
  go_wp2
  refine wp_world (fun W => W.heap[w.heap.size]? = some (.cells #[.int .i64 a0, .int .i64 a1, .int .i64 a2] 23 (0, 0)) ∧ W.heap[w.heap.size + 1]? = some (.cells #[.int .i64 b0, .int .i64 b1, .int .i64 b2] 23 (0, 0)) ∧ W.heap[w.heap.size + 1 + 1]? = some (.cells #[.int .i64 0, .int .i64 0, .int .i64 0] 23 (0, 0)) ∧ W.heap[w.heap.size + 1 + 1 + 1]? = some (.cells #[.int .i64 0, .int .i64 0, .int .i64 0] 23 (0, 0)) ∧ w.heap.size + 1 + 1 + 1 < W.heap.size ∧ Below w.heap.size w W) ⟨blk_old _ (blk_old _ (blk_old _ (heap_new _ _ _ (by simp)))), blk_old _ (blk_old _ (heap_new _ _ _ (by simp))), blk_old _ (heap_new _ _ _ (by simp)), heap_new _ _ _ (by simp), by simp, by go_grown⟩ ?_
  rintro W ⟨hA0, hA1, hR, hO, hz, hb⟩
  refine wp_loop_rounds 4 ?_
  rw [rounds_succ]
  go_wp2
  have c0_1 := blk_cls (i := 1) (v := .int .i64 a1) hA0 rfl
  have c1_2 := blk_cls (i := 2) (v := .int .i64 b2) hA1 rfl
  have c0_2 := blk_cls (i := 2) (v := .int .i64 a2) hA0 rfl
  have c1_1 := blk_cls (i := 1) (v := .int .i64 b1) hA1 rfl
  refine wp_region_cls_tail 17 (by kernel_rfl) (by kernel_rfl) ?_
  simp only [List.take_succ_cons, List.take_zero, List.drop_succ_cons, List.drop_zero]
  repeat (go_big_quiet_step ((first | (go_at_call 88; exact Cls.calls_same (rmul_any _ _ _)) | (go_at_call 86; exact Cls.calls_same (rsub_any _ _ _)))))
  refine wpQuiet_nil ?_
  rintro ⟨W1, hb1⟩
  replace hA0 := heap_below hb1 hA0
  replace hA1 := heap_below hb1 hA1
  replace hR := heap_below hb1 hR
  replace hO := heap_below hb1 hO
  replace hz : w.heap.size + 1 + 1 + 1 < W1.heap.size := Nat.lt_of_lt_of_le hz hb1.size
  replace hb := below_then hb1 hb
  dsimp only
  clear hb1 c0_1 c1_2 c0_2 c1_1
  have f := blk_free (i := 0) hO
  have c := blk_cell (i := 0) (v := .int .i64 0) hO rfl
  go_wp2
  clear f c
  refine wp_rounds_world (fun W => W.heap[w.heap.size]? = some (.cells #[.int .i64 a0, .int .i64 a1, .int .i64 a2] 23 (0, 0)) ∧ W.heap[w.heap.size + 1]? = some (.cells #[.int .i64 b0, .int .i64 b1, .int .i64 b2] 23 (0, 0)) ∧ W.heap[w.heap.size + 1 + 1]? = some (.cells #[.int .i64 0, .int .i64 0, .int .i64 0] 23 (0, 0)) ∧ W.heap[w.heap.size + 1 + 1 + 1]? = some (.cells #[.int .i64 (subS (mulS a1 b2) (mulS a2 b1)), .int .i64 0, .int .i64 0] 23 (0, 0)) ∧ w.heap.size + 1 + 1 + 1 < W.heap.size ∧ Below w.heap.size w W) ⟨blk_other _ hA0 (by simp; try omega), blk_other _ hA1 (by simp; try omega), blk_other _ hR (by simp), (blk_set _ hO), by simpa using hz, hb.setCell (by simp; try omega) _⟩ ?_
  clear hA0 hA1 hR hO hz hb W
  rintro W ⟨hA0, hA1, hR, hO, hz, hb⟩
  rw [rounds_succ]
  go_wp2
  have c0_2 := blk_cls (i := 2) (v := .int .i64 a2) hA0 rfl
  have c1_0 := blk_cls (i := 0) (v := .int .i64 b0) hA1 rfl
  have c0_0 := blk_cls (i := 0) (v := .int .i64 a0) hA0 rfl
  have c1_2 := blk_cls (i := 2) (v := .int .i64 b2) hA1 rfl
  refine wp_region_cls_tail 17 (by kernel_rfl) (by kernel_rfl) ?_
  simp only [List.take_succ_cons, List.take_zero, List.drop_succ_cons, List.drop_zero]
  repeat (go_big_quiet_step ((first | (go_at_call 88; exact Cls.calls_same (rmul_any _ _ _)) | (go_at_call 86; exact Cls.calls_same (rsub_any _ _ _)))))
  refine wpQuiet_nil ?_
  rintro ⟨W1, hb1⟩
  replace hA0 := heap_below hb1 hA0
  replace hA1 := heap_below hb1 hA1
  replace hR := heap_below hb1 hR
  replace hO := heap_below hb1 hO
  replace hz : w.heap.size + 1 + 1 + 1 < W1.heap.size := Nat.lt_of_lt_of_le hz hb1.size
  replace hb := below_then hb1 hb
  dsimp only
  clear hb1 c0_2 c1_0 c0_0 c1_2
  have f := blk_free (i := 1) hO
  have c := blk_cell (i := 1) (v := .int .i64 0) hO rfl
  go_wp2
  clear f c
  refine wp_rounds_world (fun W => W.heap[w.heap.size]? = some (.cells #[.int .i64 a0, .int .i64 a1, .int .i64 a2] 23 (0, 0)) ∧ W.heap[w.heap.size + 1]? = some (.cells #[.int .i64 b0, .int .i64 b1, .int .i64 b2] 23 (0, 0)) ∧ W.heap[w.heap.size + 1 + 1]? = some (.cells #[.int .i64 0, .int .i64 0, .int .i64 0] 23 (0, 0)) ∧ W.heap[w.heap.size + 1 + 1 + 1]? = some (.cells #[.int .i64 (subS (mulS a1 b2) (mulS a2 b1)), .int .i64 (subS (mulS a2 b0) (mulS a0 b2)), .int .i64 0] 23 (0, 0)) ∧ w.heap.size + 1 + 1 + 1 < W.heap.size ∧ Below w.heap.size w W) ⟨blk_other _ hA0 (by simp; try omega), blk_other _ hA1 (by simp; try omega), blk_other _ hR (by simp), (blk_set _ hO), by simpa using hz, hb.setCell (by simp; try omega) _⟩ ?_
  clear hA0 hA1 hR hO hz hb W
  rintro W ⟨hA0, hA1, hR, hO, hz, hb⟩
  rw [rounds_succ]
  go_wp2
  have c0_0 := blk_cls (i := 0) (v := .int .i64 a0) hA0 rfl
  have c1_1 := blk_cls (i := 1) (v := .int .i64 b1) hA1 rfl
  have c0_1 := blk_cls (i := 1) (v := .int .i64 a1) hA0 rfl
  have c1_0 := blk_cls (i := 0) (v := .int .i64 b0) hA1 rfl
  refine wp_region_cls_tail 17 (by kernel_rfl) (by kernel_rfl) ?_
  simp only [List.take_succ_cons, List.take_zero, List.drop_succ_cons, List.drop_zero]
  repeat (go_big_quiet_step ((first | (go_at_call 88; exact Cls.calls_same (rmul_any _ _ _)) | (go_at_call 86; exact Cls.calls_same (rsub_any _ _ _)))))
  refine wpQuiet_nil ?_
  rintro ⟨W1, hb1⟩
  replace hA0 := heap_below hb1 hA0
  replace hA1 := heap_below hb1 hA1
  replace hR := heap_below hb1 hR
  replace hO := heap_below hb1 hO
  replace hz : w.heap.size + 1 + 1 + 1 < W1.heap.size := Nat.lt_of_lt_of_le hz hb1.size
  replace hb := below_then hb1 hb
  dsimp only
  clear hb1 c0_0 c1_1 c0_1 c1_0
  have f := blk_free (i := 2) hO
  have c := blk_cell (i := 2) (v := .int .i64 0) hO rfl
  go_wp2
  clear f c
  refine wp_rounds_world (fun W => W.heap[w.heap.size]? = some (.cells #[.int .i64 a0, .int .i64 a1, .int .i64 a2] 23 (0, 0)) ∧ W.heap[w.heap.size + 1]? = some (.cells #[.int .i64 b0, .int .i64 b1, .int .i64 b2] 23 (0, 0)) ∧ W.heap[w.heap.size + 1 + 1]? = some (.cells #[.int .i64 0, .int .i64 0, .int .i64 0] 23 (0, 0)) ∧ W.heap[w.heap.size + 1 + 1 + 1]? = some (.cells #[.int .i64 (subS (mulS a1 b2) (mulS a2 b1)), .int .i64 (subS (mulS a2 b0) (mulS a0 b2)), .int .i64 (subS (mulS a0 b1) (mulS a1 b0))] 23 (0, 0)) ∧ w.heap.size + 1 + 1 + 1 < W.heap.size ∧ Below w.heap.size w W) ⟨blk_other _ hA0 (by simp; try omega), blk_other _ hA1 (by simp; try omega), blk_other _ hR (by simp), (blk_set _ hO), by simpa using hz, hb.setCell (by simp; try omega) _⟩ ?_
  clear hA0 hA1 hR hO hz hb W
  rintro W ⟨hA0, hA1, hR, hO, hz, hb⟩
  rw [rounds_succ]
  have o0 := blk_cell (i := 0) (v := .int .i64 (subS (mulS a1 b2) (mulS a2 b1))) hO rfl
  have r0 := blk_cell (i := 0) (v := .int .i64 0) hR rfl
  have f0 := blk_free (i := 0) hR
  have o1 := blk_cell (i := 1) (v := .int .i64 (subS (mulS a2 b0) (mulS a0 b2))) hO rfl
  have r1 := blk_cell (i := 1) (v := .int .i64 0) hR rfl
  have f1 := blk_free (i := 1) hR
  have o2 := blk_cell (i := 2) (v := .int .i64 (subS (mulS a0 b1) (mulS a1 b0))) hO rfl
  have r2 := blk_cell (i := 2) (v := .int .i64 0) hR rfl
  have f2 := blk_free (i := 2) hR
  go_wp2
  refine bodyPost_ret (v := .agg #[.int .i64 (subS (mulS a1 b2) (mulS a2 b1)), .int .i64 (subS (mulS a2 b0) (mulS a0 b2)), .int .i64 (subS (mulS a0 b1) (mulS a1 b0))]) (by simp [results, Try.results52, go_sem, r0, r1, r2]) rfl ⟨rfl, ?_⟩
  exact ((hb.setCell (by simp; try omega) _).setCell (by simp; try omega) _).setCell (by simp; try omega) _

theorem mix1_any (x y t : Int) (p : Nat) (w : World) (hc : w.cell? ⟨p, 0, none⟩ = some (.int .i64 t)) :
    Calls Try.prog 89 #[.int .i64 x, .int .i64 y, .pointer (some ⟨p, 0, none⟩)] w fun e w' => e = .returned (.int .i64 (lerpS x y t)) ∧ w = w' := by
  go_enter Try.func89, Try.ntmps89
  go_wp2_with (go_at_call 90; refine (flerp_any _ _ _ _).mono ?_; rintro e w' ⟨rfl, rfl⟩)
  go_ret
  exact ⟨rfl, rfl⟩
theorem each_mix (a0 a1 a2 b0 b1 b2 t : Int) (w : World) (p : Nat) (hp : w.cell? ⟨p, 0, none⟩ = some (.int .i64 t)) :
    Calls Try.prog 82 #[.agg #[.int .i64 a0, .int .i64 a1, .int .i64 a2], .agg #[.int .i64 b0, .int .i64 b1, .int .i64 b2], .func (.func 89) #[] #[.pointer (some ⟨p, 0, none⟩)]] w
      fun e w' => e = .returned (.agg #[.int .i64 (lerpS a0 b0 t), .int .i64 (lerpS a1 b1 t), .int .i64 (lerpS a2 b2 t)]) ∧ Below w.heap.size w w' := by
  go_enter Try.func82, Try.ntmps82
  go_wp2
  refine wp_world (fun W => W.heap[w.heap.size]? = some (.cells #[.int .i64 a0, .int .i64 a1, .int .i64 a2] 26 (0, 0)) ∧ W.heap[w.heap.size + 1]? = some (.cells #[.int .i64 b0, .int .i64 b1, .int .i64 b2] 26 (0, 0)) ∧ W.heap[w.heap.size + 1 + 1]? = some (.cells #[.int .i64 0, .int .i64 0, .int .i64 0] 26 (0, 0)) ∧ w.heap.size + 1 + 1 < W.heap.size ∧ Below w.heap.size w W) ⟨blk_old _ (blk_old _ (heap_new _ _ _ (by simp))), blk_old _ (heap_new _ _ _ (by simp)), heap_new _ _ _ (by simp), by simp, by go_grown⟩ ?_
  rintro W ⟨hA0, hA1, hR, hz, hb⟩
  have cp := Cls.cell (below_holds hb hp)
  have c0_0 := blk_cls (i := 0) (v := .int .i64 a0) hA0 rfl
  have c0_1 := blk_cls (i := 1) (v := .int .i64 a1) hA0 rfl
  have c0_2 := blk_cls (i := 2) (v := .int .i64 a2) hA0 rfl
  have c1_0 := blk_cls (i := 0) (v := .int .i64 b0) hA1 rfl
  have c1_1 := blk_cls (i := 1) (v := .int .i64 b1) hA1 rfl
  have c1_2 := blk_cls (i := 2) (v := .int .i64 b2) hA1 rfl
  refine wp_region_cls_tail 19 (by kernel_rfl) (by kernel_rfl) ?_
  simp only [List.take_succ_cons, List.take_zero, List.drop_succ_cons, List.drop_zero]
  repeat (go_big_quiet_step ((first | (go_at_call 89; exact Cls.calls_same (mix1_any _ _ _ _ _ (cp _))))))
  refine wpQuiet_nil ?_
  rintro ⟨W1, hb1⟩
  replace hR := heap_below hb1 hR
  replace hb := below_then hb1 hb
  dsimp only
  clear hb1 hz c0_0 c0_1 c0_2 c1_0 c1_1 c1_2 hA0 hA1
  have r0 := blk_cell (i := 0) (v := .int .i64 0) hR rfl
  have f0 := blk_free (i := 0) hR
  have r1 := blk_cell (i := 1) (v := .int .i64 0) hR rfl
  have f1 := blk_free (i := 1) hR
  have r2 := blk_cell (i := 2) (v := .int .i64 0) hR rfl
  have f2 := blk_free (i := 2) hR
  go_wp2
  refine bodyPost_ret (v := .agg #[.int .i64 (lerpS a0 b0 t), .int .i64 (lerpS a1 b1 t), .int .i64 (lerpS a2 b2 t)]) (by simp [results, Try.results82, go_sem, r0, r1, r2]) rfl ⟨rfl, ?_⟩
  exact (((hb.setCell (by simp; try omega) _).setCell (by simp; try omega) _).setCell (by simp; try omega) _)

theorem vmix_any (a0 a1 a2 b0 b1 b2 t : Int) (w : World) :
    Calls Try.prog 25 #[.agg #[.int .i64 a0, .int .i64 a1, .int .i64 a2], .agg #[.int .i64 b0, .int .i64 b1, .int .i64 b2], .int .i64 t] w
      fun e w' => e = .returned (.agg #[.int .i64 (lerpS a0 b0 t), .int .i64 (lerpS a1 b1 t), .int .i64 (lerpS a2 b2 t)]) ∧ Below w.heap.size w w' := by
  go_enter Try.func25, Try.ntmps25
  go_wp2_with fail
  refine calls_world (fun W => W.heap[w.heap.size + 1 + 1]? = some (.cells #[.int .i64 t] 24 (0, 0)) ∧ W.heap[w.heap.size + 1 + 1 + 1]? = some (.cells #[.int .i64 0, .int .i64 0, .int .i64 0] 26 (0, 0)) ∧ Below w.heap.size w W) ⟨blk_old _ (heap_new _ _ _ (by simp)), heap_new _ _ _ (by simp), by go_grown⟩ ?_
  rintro W ⟨hT, hR, hb⟩
  refine (each_mix _ _ _ _ _ _ _ _ _ (blk_cell hT rfl)).mono ?_
  rintro e W1 ⟨rfl, hb1⟩
  replace hR := heap_below hb1 hR
  replace hb := below_then hb1 hb
  clear hb1 hT
  have r0 := blk_cell (i := 0) (v := .int .i64 0) hR rfl
  have f0 := blk_free (i := 0) hR
  have r1 := blk_cell (i := 1) (v := .int .i64 0) hR rfl
  have f1 := blk_free (i := 1) hR
  have r2 := blk_cell (i := 2) (v := .int .i64 0) hR rfl
  have f2 := blk_free (i := 2) hR
  go_wp2
  refine bodyPost_ret (v := .agg #[.int .i64 (lerpS a0 b0 t), .int .i64 (lerpS a1 b1 t), .int .i64 (lerpS a2 b2 t)]) (by simp [results, Try.results25, go_sem, r0, r1, r2]) rfl ⟨rfl, ?_⟩
  exact (((hb.setCell (by simp; try omega) _).setCell (by simp; try omega) _).setCell (by simp; try omega) _)

theorem vneg_any (a0 a1 a2 : Int) (w : World) :
    Calls Try.prog 22 #[.agg #[.int .i64 a0, .int .i64 a1, .int .i64 a2]] w
      fun e w' => e = .returned (.agg #[.int .i64 (subS 0 a0), .int .i64 (subS 0 a1), .int .i64 (subS 0 a2)]) ∧ Below w.heap.size w w' := by
  go_enter Try.func22, Try.ntmps22
  go_wp2_with fail
  refine calls_world (fun W => W.heap[w.heap.size]? = some (.cells #[.int .i64 a0, .int .i64 a1, .int .i64 a2] 26 (0, 0)) ∧ W.heap[w.heap.size + 1]? = some (.cells #[.int .i64 0, .int .i64 0, .int .i64 0] 26 (0, 0)) ∧ w.heap.size + 1 < W.heap.size ∧ Below w.heap.size w W) ⟨blk_old _ (heap_new _ _ _ (by simp)), heap_new _ _ _ (by simp), by simp, by go_grown⟩ ?_
  rintro W ⟨hA0, hR, hz, hb⟩
  refine (vsub_any _ _ _ _ _ _ _).mono ?_
  rintro e W1 ⟨rfl, hb1⟩
  replace hR := heap_below hb1 hR
  replace hb := below_then hb1 hb
  clear hb1 hz hA0
  have r0 := blk_cell (i := 0) (v := .int .i64 0) hR rfl
  have f0 := blk_free (i := 0) hR
  have r1 := blk_cell (i := 1) (v := .int .i64 0) hR rfl
  have f1 := blk_free (i := 1) hR
  have r2 := blk_cell (i := 2) (v := .int .i64 0) hR rfl
  have f2 := blk_free (i := 2) hR
  go_wp2
  refine bodyPost_ret (v := .agg #[.int .i64 (subS 0 a0), .int .i64 (subS 0 a1), .int .i64 (subS 0 a2)]) (by simp [results, Try.results22, go_sem, r0, r1, r2]) rfl ⟨rfl, ?_⟩
  exact (((hb.setCell (by simp; try omega) _).setCell (by simp; try omega) _).setCell (by simp; try omega) _)

end Go.Proofs.Ytaikocplcblnkaa
