/- What the functions of layer 2 on points compute, by the program and by the reference. No condition. -/
import Derived.Test.YtpjgeleglmjkfaaFix
import Derived.Test.YtpjgeleglmjkfaaTail
set_option linter.unusedVariables false
namespace Go.Proofs.Ytpjgeleglmjkfaa
open Go.RowKit

theorem rvadd_any (a0 a1 a2 b0 b1 b2 : Int) (w : World) :
    Calls Try.prog 61 #[.agg #[.int .i64 a0, .int .i64 a1, .int .i64 a2], .agg #[.int .i64 b0, .int .i64 b1, .int .i64 b2]] w
      fun e w' => e = .returned (.agg #[.int .i64 (addS a0 b0), .int .i64 (addS a1 b1), .int .i64 (addS a2 b2)]) ∧ Below w.heap.size w w' := by
  go_enter Try.func61, Try.ntmps61
  go_wp2
  refine wp_world (fun W => W.heap[w.heap.size]? = some (.cells #[.int .i64 a0, .int .i64 a1, .int .i64 a2] 66 (0, 0)) ∧ W.heap[w.heap.size + 1]? = some (.cells #[.int .i64 b0, .int .i64 b1, .int .i64 b2] 66 (0, 0)) ∧ W.heap[w.heap.size + 1 + 1]? = some (.cells #[.int .i64 0, .int .i64 0, .int .i64 0] 66 (0, 0)) ∧ W.heap[w.heap.size + 1 + 1 + 1]? = some (.cells #[.int .i64 0, .int .i64 0, .int .i64 0] 66 (0, 0)) ∧ w.heap.size + 1 + 1 + 1 < W.heap.size ∧ Below w.heap.size w W) ⟨blk_old _ (blk_old _ (blk_old _ (heap_new _ _ _ (by simp)))), blk_old _ (blk_old _ (heap_new _ _ _ (by simp))), blk_old _ (heap_new _ _ _ (by simp)), heap_new _ _ _ (by simp), by simp, by go_grown⟩ ?_
  rintro W ⟨hA0, hA1, hR, hO, hz, hb⟩
  refine wp_loop_rounds 4 ?_
  rw [rounds_succ]
  go_wp2
  have c0_0 := blk_cls (i := 0) (v := .int .i64 a0) hA0 rfl
  have c1_0 := blk_cls (i := 0) (v := .int .i64 b0) hA1 rfl
  refine wp_region_cls_tail 9 (by kernel_rfl) (by kernel_rfl) ?_
  simp only [List.take_succ_cons, List.take_zero, List.drop_succ_cons, List.drop_zero]
  repeat (go_big_quiet_step ((first | (go_at_call 77; exact Cls.calls_same (radd_any _ _ _)))))
  refine wpQuiet_nil ?_
  rintro ⟨W1, hb1⟩
  replace hA0 := heap_below hb1 hA0
  replace hA1 := heap_below hb1 hA1
  replace hR := heap_below hb1 hR
  replace hO := heap_below hb1 hO
  replace hz : w.heap.size + 1 + 1 + 1 < W1.heap.size := Nat.lt_of_lt_of_le hz hb1.size
  replace hb := below_then hb1 hb
  dsimp only
  clear hb1 c0_0 c1_0
  have f := blk_free (i := 0) hO
  have c := blk_cell (i := 0) (v := .int .i64 0) hO rfl
  go_wp2
  clear f c
  refine wp_rounds_world (fun W => W.heap[w.heap.size]? = some (.cells #[.int .i64 a0, .int .i64 a1, .int .i64 a2] 66 (0, 0)) ∧ W.heap[w.heap.size + 1]? = some (.cells #[.int .i64 b0, .int .i64 b1, .int .i64 b2] 66 (0, 0)) ∧ W.heap[w.heap.size + 1 + 1]? = some (.cells #[.int .i64 0, .int .i64 0, .int .i64 0] 66 (0, 0)) ∧ W.heap[w.heap.size + 1 + 1 + 1]? = some (.cells #[.int .i64 (addS a0 b0), .int .i64 0, .int .i64 0] 66 (0, 0)) ∧ w.heap.size + 1 + 1 + 1 < W.heap.size ∧ Below w.heap.size w W) ⟨blk_other _ hA0 (by simp; try omega), blk_other _ hA1 (by simp; try omega), blk_other _ hR (by simp), (blk_set _ hO), by simpa using hz, hb.setCell (by simp; try omega) _⟩ ?_
  clear hA0 hA1 hR hO hz hb W
  rintro W ⟨hA0, hA1, hR, hO, hz, hb⟩
  rw [rounds_succ]
  go_wp2
  have c0_1 := blk_cls (i := 1) (v := .int .i64 a1) hA0 rfl
  have c1_1 := blk_cls (i := 1) (v := .int .i64 b1) hA1 rfl
  refine wp_region_cls_tail 9 (by kernel_rfl) (by kernel_rfl) ?_
  simp only [List.take_succ_cons, List.take_zero, List.drop_succ_cons, List.drop_zero]
  repeat (go_big_quiet_step ((first | (go_at_call 77; exact Cls.calls_same (radd_any _ _ _)))))
  refine wpQuiet_nil ?_
  rintro ⟨W1, hb1⟩
  replace hA0 := heap_below hb1 hA0
  replace hA1 := heap_below hb1 hA1
  replace hR := heap_below hb1 hR
  replace hO := heap_below hb1 hO
  replace hz : w.heap.size + 1 + 1 + 1 < W1.heap.size := Nat.lt_of_lt_of_le hz hb1.size
  replace hb := below_then hb1 hb
  dsimp only
  clear hb1 c0_1 c1_1
  have f := blk_free (i := 1) hO
  have c := blk_cell (i := 1) (v := .int .i64 0) hO rfl
  go_wp2
  clear f c
  refine wp_rounds_world (fun W => W.heap[w.heap.size]? = some (.cells #[.int .i64 a0, .int .i64 a1, .int .i64 a2] 66 (0, 0)) ∧ W.heap[w.heap.size + 1]? = some (.cells #[.int .i64 b0, .int .i64 b1, .int .i64 b2] 66 (0, 0)) ∧ W.heap[w.heap.size + 1 + 1]? = some (.cells #[.int .i64 0, .int .i64 0, .int .i64 0] 66 (0, 0)) ∧ W.heap[w.heap.size + 1 + 1 + 1]? = some (.cells #[.int .i64 (addS a0 b0), .int .i64 (addS a1 b1), .int .i64 0] 66 (0, 0)) ∧ w.heap.size + 1 + 1 + 1 < W.heap.size ∧ Below w.heap.size w W) ⟨blk_other _ hA0 (by simp; try omega), blk_other _ hA1 (by simp; try omega), blk_other _ hR (by simp), (blk_set _ hO), by simpa using hz, hb.setCell (by simp; try omega) _⟩ ?_
  clear hA0 hA1 hR hO hz hb W
  rintro W ⟨hA0, hA1, hR, hO, hz, hb⟩
  rw [rounds_succ]
  go_wp2
  have c0_2 := blk_cls (i := 2) (v := .int .i64 a2) hA0 rfl
  have c1_2 := blk_cls (i := 2) (v := .int .i64 b2) hA1 rfl
  refine wp_region_cls_tail 9 (by kernel_rfl) (by kernel_rfl) ?_
  simp only [List.take_succ_cons, List.take_zero, List.drop_succ_cons, List.drop_zero]
  repeat (go_big_quiet_step ((first | (go_at_call 77; exact Cls.calls_same (radd_any _ _ _)))))
  refine wpQuiet_nil ?_
  rintro ⟨W1, hb1⟩
  replace hA0 := heap_below hb1 hA0
  replace hA1 := heap_below hb1 hA1
  replace hR := heap_below hb1 hR
  replace hO := heap_below hb1 hO
  replace hz : w.heap.size + 1 + 1 + 1 < W1.heap.size := Nat.lt_of_lt_of_le hz hb1.size
  replace hb := below_then hb1 hb
  dsimp only
  clear hb1 c0_2 c1_2
  have f := blk_free (i := 2) hO
  have c := blk_cell (i := 2) (v := .int .i64 0) hO rfl
  go_wp2
  clear f c
  refine wp_rounds_world (fun W => W.heap[w.heap.size]? = some (.cells #[.int .i64 a0, .int .i64 a1, .int .i64 a2] 66 (0, 0)) ∧ W.heap[w.heap.size + 1]? = some (.cells #[.int .i64 b0, .int .i64 b1, .int .i64 b2] 66 (0, 0)) ∧ W.heap[w.heap.size + 1 + 1]? = some (.cells #[.int .i64 0, .int .i64 0, .int .i64 0] 66 (0, 0)) ∧ W.heap[w.heap.size + 1 + 1 + 1]? = some (.cells #[.int .i64 (addS a0 b0), .int .i64 (addS a1 b1), .int .i64 (addS a2 b2)] 66 (0, 0)) ∧ w.heap.size + 1 + 1 + 1 < W.heap.size ∧ Below w.heap.size w W) ⟨blk_other _ hA0 (by simp; try omega), blk_other _ hA1 (by simp; try omega), blk_other _ hR (by simp), (blk_set _ hO), by simpa using hz, hb.setCell (by simp; try omega) _⟩ ?_
  clear hA0 hA1 hR hO hz hb W
  rintro W ⟨hA0, hA1, hR, hO, hz, hb⟩
  rw [rounds_succ]
  have o0 := blk_cell (i := 0) (v := .int .i64 (addS a0 b0)) hO rfl
  have r0 := blk_cell (i := 0) (v := .int .i64 0) hR rfl
  have f0 := blk_free (i := 0) hR
  have o1 := blk_cell (i := 1) (v := .int .i64 (addS a1 b1)) hO rfl
  have r1 := blk_cell (i := 1) (v := .int .i64 0) hR rfl
  have f1 := blk_free (i := 1) hR
  have o2 := blk_cell (i := 2) (v := .int .i64 (addS a2 b2)) hO rfl
  have r2 := blk_cell (i := 2) (v := .int .i64 0) hR rfl
  have f2 := blk_free (i := 2) hR
  go_wp2
  refine bodyPost_ret (v := .agg #[.int .i64 (addS a0 b0), .int .i64 (addS a1 b1), .int .i64 (addS a2 b2)]) (by simp [results, Try.results61, go_sem, r0, r1, r2]) rfl ⟨rfl, ?_⟩
  exact ((hb.setCell (by simp; try omega) _).setCell (by simp; try omega) _).setCell (by simp; try omega) _




theorem each_add (a0 a1 a2 b0 b1 b2 : Int) (w : World) :
    Calls Try.prog 66 #[.agg #[.int .i64 a0, .int .i64 a1, .int .i64 a2], .agg #[.int .i64 b0, .int .i64 b1, .int .i64 b2], .func (.func 67) #[] #[]] w
      fun e w' => e = .returned (.agg #[.int .i64 (addS a0 b0), .int .i64 (addS a1 b1), .int .i64 (addS a2 b2)]) ∧ Below w.heap.size w w' := by
  go_enter Try.func66, Try.ntmps66
  go_wp2
  refine wp_world (fun W => W.heap[w.heap.size]? = some (.cells #[.int .i64 a0, .int .i64 a1, .int .i64 a2] 68 (0, 0)) ∧ W.heap[w.heap.size + 1]? = some (.cells #[.int .i64 b0, .int .i64 b1, .int .i64 b2] 68 (0, 0)) ∧ W.heap[w.heap.size + 1 + 1]? = some (.cells #[.int .i64 0, .int .i64 0, .int .i64 0] 68 (0, 0)) ∧ w.heap.size + 1 + 1 < W.heap.size ∧ Below w.heap.size w W) ⟨blk_old _ (blk_old _ (heap_new _ _ _ (by simp))), blk_old _ (heap_new _ _ _ (by simp)), heap_new _ _ _ (by simp), by simp, by go_grown⟩ ?_
  rintro W ⟨hA0, hA1, hR, hz, hb⟩
  have c0_0 := blk_cls (i := 0) (v := .int .i64 a0) hA0 rfl
  have c0_1 := blk_cls (i := 1) (v := .int .i64 a1) hA0 rfl
  have c0_2 := blk_cls (i := 2) (v := .int .i64 a2) hA0 rfl
  have c1_0 := blk_cls (i := 0) (v := .int .i64 b0) hA1 rfl
  have c1_1 := blk_cls (i := 1) (v := .int .i64 b1) hA1 rfl
  have c1_2 := blk_cls (i := 2) (v := .int .i64 b2) hA1 rfl
  refine wp_region_cls_tail 19 (by kernel_rfl) (by kernel_rfl) ?_
  simp only [List.take_succ_cons, List.take_zero, List.drop_succ_cons, List.drop_zero]
  repeat (go_big_quiet_step ((first | (go_at_call 67; exact Cls.calls_same (fadd_any _ _ _)))))
  refine wpQuiet_nil ?_
  rintro ⟨W1, hb1⟩
  replace hR := heap_below hb1 hR
  replace hb := below_then hb1 hb
  dsimp only
  clear hb1 hz c0_0 c0_1 c0_2 c1_0 c1_1 c1_2 hA0 hA1
  have r0 := blk_cell (i := 0) (v := .int .i64 0) hR rfl
  have f0 := blk_free (i := 0) hR
  have r1 := blk_cell (i := 1) (v := .int .i64 0) hR rfl
  have f1 := blk_free (i := 1) hR
  have r2 := blk_cell (i := 2) (v := .int .i64 0) hR rfl
  have f2 := blk_free (i := 2) hR
  go_wp2
  refine bodyPost_ret (v := .agg #[.int .i64 (addS a0 b0), .int .i64 (addS a1 b1), .int .i64 (addS a2 b2)]) (by simp [results, Try.results66, go_sem, r0, r1, r2]) rfl ⟨rfl, ?_⟩
  exact (((hb.setCell (by simp; try omega) _).setCell (by simp; try omega) _).setCell (by simp; try omega) _)

theorem each_sub (a0 a1 a2 b0 b1 b2 : Int) (w : World) :
    Calls Try.prog 66 #[.agg #[.int .i64 a0, .int .i64 a1, .int .i64 a2], .agg #[.int .i64 b0, .int .i64 b1, .int .i64 b2], .func (.func 47) #[] #[]] w
      fun e w' => e = .returned (.agg #[.int .i64 (subS a0 b0), .int .i64 (subS a1 b1), .int .i64 (subS a2 b2)]) ∧ Below w.heap.size w w' := by
  go_enter Try.func66, Try.ntmps66
  go_wp2
  refine wp_world (fun W => W.heap[w.heap.size]? = some (.cells #[.int .i64 a0, .int .i64 a1, .int .i64 a2] 68 (0, 0)) ∧ W.heap[w.heap.size + 1]? = some (.cells #[.int .i64 b0, .int .i64 b1, .int .i64 b2] 68 (0, 0)) ∧ W.heap[w.heap.size + 1 + 1]? = some (.cells #[.int .i64 0, .int .i64 0, .int .i64 0] 68 (0, 0)) ∧ w.heap.size + 1 + 1 < W.heap.size ∧ Below w.heap.size w W) ⟨blk_old _ (blk_old _ (heap_new _ _ _ (by simp))), blk_old _ (heap_new _ _ _ (by simp)), heap_new _ _ _ (by simp), by simp, by go_grown⟩ ?_
  rintro W ⟨hA0, hA1, hR, hz, hb⟩
  have c0_0 := blk_cls (i := 0) (v := .int .i64 a0) hA0 rfl
  have c0_1 := blk_cls (i := 1) (v := .int .i64 a1) hA0 rfl
  have c0_2 := blk_cls (i := 2) (v := .int .i64 a2) hA0 rfl
  have c1_0 := blk_cls (i := 0) (v := .int .i64 b0) hA1 rfl
  have c1_1 := blk_cls (i := 1) (v := .int .i64 b1) hA1 rfl
  have c1_2 := blk_cls (i := 2) (v := .int .i64 b2) hA1 rfl
  refine wp_region_cls_tail 19 (by kernel_rfl) (by kernel_rfl) ?_
  simp only [List.take_succ_cons, List.take_zero, List.drop_succ_cons, List.drop_zero]
  repeat (go_big_quiet_step ((first | (go_at_call 47; exact Cls.calls_same (fsub_any _ _ _)))))
  refine wpQuiet_nil ?_
  rintro ⟨W1, hb1⟩
  replace hR := heap_below hb1 hR
  replace hb := below_then hb1 hb
  dsimp only
  clear hb1 hz c0_0 c0_1 c0_2 c1_0 c1_1 c1_2 hA0 hA1
  have r0 := blk_cell (i := 0) (v := .int .i64 0) hR rfl
  have f0 := blk_free (i := 0) hR
  have r1 := blk_cell (i := 1) (v := .int .i64 0) hR rfl
  have f1 := blk_free (i := 1) hR
  have r2 := blk_cell (i := 2) (v := .int .i64 0) hR rfl
  have f2 := blk_free (i := 2) hR
  go_wp2
  refine bodyPost_ret (v := .agg #[.int .i64 (subS a0 b0), .int .i64 (subS a1 b1), .int .i64 (subS a2 b2)]) (by simp [results, Try.results66, go_sem, r0, r1, r2]) rfl ⟨rfl, ?_⟩
  exact (((hb.setCell (by simp; try omega) _).setCell (by simp; try omega) _).setCell (by simp; try omega) _)

theorem vadd_any (a0 a1 a2 b0 b1 b2 : Int) (w : World) :
    Calls Try.prog 46 #[.agg #[.int .i64 a0, .int .i64 a1, .int .i64 a2], .agg #[.int .i64 b0, .int .i64 b1, .int .i64 b2]] w
      fun e w' => e = .returned (.agg #[.int .i64 (addS a0 b0), .int .i64 (addS a1 b1), .int .i64 (addS a2 b2)]) ∧ Below w.heap.size w w' := by
  go_enter Try.func46, Try.ntmps46
  go_wp2_with fail
  refine calls_world (fun W => W.heap[w.heap.size]? = some (.cells #[.int .i64 a0, .int .i64 a1, .int .i64 a2] 68 (0, 0)) ∧ W.heap[w.heap.size + 1]? = some (.cells #[.int .i64 b0, .int .i64 b1, .int .i64 b2] 68 (0, 0)) ∧ W.heap[w.heap.size + 1 + 1]? = some (.cells #[.int .i64 0, .int .i64 0, .int .i64 0] 68 (0, 0)) ∧ w.heap.size + 1 + 1 < W.heap.size ∧ Below w.heap.size w W) ⟨blk_old _ (blk_old _ (heap_new _ _ _ (by simp))), blk_old _ (heap_new _ _ _ (by simp)), heap_new _ _ _ (by simp), by simp, by go_grown⟩ ?_
  rintro W ⟨hA0, hA1, hR, hz, hb⟩
  refine (each_add _ _ _ _ _ _ _).mono ?_
  rintro e W1 ⟨rfl, hb1⟩
  replace hR := heap_below hb1 hR
  replace hb := below_then hb1 hb
  clear hb1 hz hA0 hA1
  have r0 := blk_cell (i := 0) (v := .int .i64 0) hR rfl
  have f0 := blk_free (i := 0) hR
  have r1 := blk_cell (i := 1) (v := .int .i64 0) hR rfl
  have f1 := blk_free (i := 1) hR
  have r2 := blk_cell (i := 2) (v := .int .i64 0) hR rfl
  have f2 := blk_free (i := 2) hR
  go_wp2
  refine bodyPost_ret (v := .agg #[.int .i64 (addS a0 b0), .int .i64 (addS a1 b1), .int .i64 (addS a2 b2)]) (by simp [results, Try.results46, go_sem, r0, r1, r2]) rfl ⟨rfl, ?_⟩
  exact (((hb.setCell (by simp; try omega) _).setCell (by simp; try omega) _).setCell (by simp; try omega) _)







end Go.Proofs.Ytpjgeleglmjkfaa
