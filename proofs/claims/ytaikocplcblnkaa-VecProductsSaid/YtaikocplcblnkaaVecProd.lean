/- The law VecProducts: its walk. No condition. -/
import Derived.Test.YtaikocplcblnkaaUnit
import Derived.Test.YtaikocplcblnkaaWidest
set_option linter.unusedVariables false
namespace Go.Proofs.Ytaikocplcblnkaa
open Go.RowKit

set_option maxRecDepth 100000 in
set_option maxHeartbeats 1000000 in
theorem vecProducts_0 (a0 a1 a2 b0 b1 b2 : Int) (w : World) : Calls Try.prog 8 #[.agg #[.int .i64 a0, .int .i64 a1, .int .i64 a2], .agg #[.int .i64 b0, .int .i64 b1, .int .i64 b2], .int .i64 0] w fun e w' => e = .returned (.bool true) ∧ Below w.heap.size w w' := by
  have t0 : vatS a0 a1 a2 0 = a0 := rfl
  go_enter Try.func8, Try.ntmps8
  go_upto_region 1 with fail
  refine wp_world (fun W => W.heap[w.heap.size]? = some (.cells #[.int .i64 a0, .int .i64 a1, .int .i64 a2] 23 (0, 0)) ∧ W.heap[w.heap.size + 1]? = some (.cells #[.int .i64 b0, .int .i64 b1, .int .i64 b2] 23 (0, 0)) ∧ w.heap.size + 1 < W.heap.size ∧ Below w.heap.size w W) ⟨blk_old _ (heap_new _ _ _ (by simp)), heap_new _ _ _ (by simp), by simp, by go_grown⟩ ?_
  rintro W ⟨hA, hB, hz, hb⟩
  have c0 := blk_cls (i := 0) (v := .int .i64 a0) hA rfl
  have c1 := blk_cls (i := 1) (v := .int .i64 a1) hA rfl
  have c2 := blk_cls (i := 2) (v := .int .i64 a2) hA rfl
  have d0 := blk_cls (i := 0) (v := .int .i64 b0) hB rfl
  have d1 := blk_cls (i := 1) (v := .int .i64 b1) hB rfl
  have d2 := blk_cls (i := 2) (v := .int .i64 b2) hB rfl
  refine wp_region_fresh 6 [(4, 7, .cells #[.int .i64 0, .int .i64 0, .int .i64 0] 26 (0, 0)), (5, 8, .cells #[.int .i64 0, .int .i64 0, .int .i64 0] 26 (0, 0))] [.agg #[.int .i64 a0, .int .i64 a1, .int .i64 a2], .agg #[.int .i64 a0, .int .i64 a1, .int .i64 a2], .agg #[.int .i64 b0, .int .i64 b1, .int .i64 b2], .agg #[.int .i64 b0, .int .i64 b1, .int .i64 b2]] (by kernel_rfl) (by kernel_rfl) ⟨fun e he => by simp only [List.mem_cons, List.not_mem_nil, or_false] at he; rcases he with rfl | rfl <;> exact ⟨_, rfl, rfl, rfl, fun a w => by kernel_rfl⟩, by simp, by simp, by simp, other_of (by kernel_rfl)⟩ ?_ (laid_all (by simp) (by simp; constructor <;> kernel_rfl))
  simp only [List.take_succ_cons, List.take_zero, List.drop_succ_cons, List.drop_zero]
  refine wpS_op _ (by rfl) rfl (by rfl) (fun s => by simp [c0, c1, c2, go_sem, strongUpon]) ?_
  refine wpS_op _ (by rfl) rfl (by rfl) (fun s => by simp [go_sem]; exact strong_call (to02_any _ _ _ _)) ?_
  refine wpS_op _ (by rfl) rfl (by rfl) (fun s => by simp [d0, d1, d2, go_sem, strongUpon]) ?_
  refine wpS_op _ (by rfl) rfl (by rfl) (fun s => by simp [go_sem]; exact strong_call (to02_any _ _ _ _)) ?_
  refine wpS_al (by rfl) fun x => ?_
  refine wpS_al (by rfl) fun y => ?_
  refine wpS_nil fun s hs => ?_
  obtain ⟨b, g1, g2, g3, g4⟩ := hs _ (List.Mem.head _)
  obtain ⟨b', k1, k2, k3, k4⟩ := hs _ (List.Mem.tail _ (List.Mem.head _))
  have g5 := g4 _ (List.Mem.tail _ (List.Mem.head _)) (by simp)
  simp [Act.put] at g1 k1 g5
  subst g1 k1
  clear hs g4 k4 c0 c1 c2 d0 d1 d2
  obtain ⟨W1, hb1⟩ := s
  simp only [Act.put, List.setIfInBounds_toArray, List.set_cons_succ, List.set_cons_zero, List.getD_cons_zero, List.getD_cons_succ] at g2 k2 ⊢
  replace hA := heap_below hb1 hA
  replace hB := heap_below hb1 hB
  replace hb := below_then hb1 hb
  have hxA : w.heap.size < x := by omega
  have hyA : w.heap.size < y := by omega
  have hxB : w.heap.size + 1 < x := by omega
  have hyB : w.heap.size + 1 < y := by omega
  clear hb1 hz g3 k3
  have x0 := blk_cell (i := 0) (v := .int .i64 0) g2 rfl
  have ux0 := blk_free (i := 0) g2
  have x1 := blk_cell (i := 1) (v := .int .i64 0) g2 rfl
  have ux1 := blk_free (i := 1) g2
  have x2 := blk_cell (i := 2) (v := .int .i64 0) g2 rfl
  have ux2 := blk_free (i := 2) g2
  have y0 := blk_cell (i := 0) (v := .int .i64 0) k2 rfl
  have uy0 := blk_free (i := 0) k2
  have y1 := blk_cell (i := 1) (v := .int .i64 0) k2 rfl
  have uy1 := blk_free (i := 1) k2
  have y2 := blk_cell (i := 2) (v := .int .i64 0) k2 rfl
  have uy2 := blk_free (i := 2) k2
  have g6 : ¬ x = y := fun h => g5 h.symm
  go_upto_region 2 with fail
  refine wp_world (fun W => W.heap[w.heap.size]? = some (.cells #[.int .i64 a0, .int .i64 a1, .int .i64 a2] 23 (0, 0)) ∧ W.heap[w.heap.size + 1]? = some (.cells #[.int .i64 b0, .int .i64 b1, .int .i64 b2] 23 (0, 0)) ∧ W.heap[x]? = some (.cells #[.int .i64 a0, .int .i64 a1, .int .i64 a2] 26 (0, 0)) ∧ W.heap[y]? = some (.cells #[.int .i64 b0, .int .i64 b1, .int .i64 b2] 26 (0, 0)) ∧ Below w.heap.size w W)
    ⟨blk_other _ (blk_other _ (blk_other _ (blk_other _ (blk_other _ (blk_other _ hA (by simp; omega)) (by simp; omega)) (by simp; omega)) (by simp; omega)) (by simp; omega)) (by simp; omega), blk_other _ (blk_other _ (blk_other _ (blk_other _ (blk_other _ (blk_other _ hB (by simp; omega)) (by simp; omega)) (by simp; omega)) (by simp; omega)) (by simp; omega)) (by simp; omega), blk_other _ (blk_other _ (blk_other _ (blk_set _ (blk_set _ (blk_set _ g2))) (by simp; omega)) (by simp; omega)) (by simp; omega), blk_set _ (blk_set _ (blk_set _ (blk_other _ (blk_other _ (blk_other _ k2 (by simp; omega)) (by simp; omega)) (by simp; omega)))), (((((hb.setCell (by simp; omega) _).setCell (by simp; omega) _).setCell (by simp; omega) _).setCell (by simp; omega) _).setCell (by simp; omega) _).setCell (by simp; omega) _⟩ ?_
  clear hA hB hb g2 k2 x0 x1 x2 y0 y1 y2 ux0 ux1 ux2 uy0 uy1 uy2
  rintro W2 ⟨hA, hB, hX, hY, hb⟩
  have e2 := blk_cell (i := 2) (v := .int .i64 a2) hA rfl
  have e0 := blk_cell (i := 0) (v := .int .i64 a0) hA rfl
  go_wp2_with fail
  clear e2 e0
  have c0 := blk_cls (i := 0) (v := .int .i64 a0) hA rfl
  have c1 := blk_cls (i := 1) (v := .int .i64 a1) hA rfl
  have c2 := blk_cls (i := 2) (v := .int .i64 a2) hA rfl
  have d0 := blk_cls (i := 0) (v := .int .i64 b0) hB rfl
  have d1 := blk_cls (i := 1) (v := .int .i64 b1) hB rfl
  have d2 := blk_cls (i := 2) (v := .int .i64 b2) hB rfl
  have p0 := blk_cls (i := 0) (v := .int .i64 a0) hX rfl
  have p1 := blk_cls (i := 1) (v := .int .i64 a1) hX rfl
  have p2 := blk_cls (i := 2) (v := .int .i64 a2) hX rfl
  have q0 := blk_cls (i := 0) (v := .int .i64 b0) hY rfl
  have q1 := blk_cls (i := 1) (v := .int .i64 b1) hY rfl
  have q2 := blk_cls (i := 2) (v := .int .i64 b2) hY rfl
  clear hA hB hX hY
  have he := fun (a b c a' b' c' : Int) (w : World) => run_eql_arr3 (P := Try.prog) (T := 23) Try.underlying23 Try.underlying2 (by kernel_rfl) (by kernel_rfl) a b c a' b' c' w
  refine wp_region_cls (by kernel_rfl) (by kernel_rfl) ?_
  repeat (go_big_quiet_step ((first | (go_at_call 16; exact Cls.calls (awake02_any _)) | (go_at_call 17; exact Cls.calls (from02_any _ _ _ _)) | (go_at_call 49; exact Cls.calls (vdot_any _ _ _ _ _ _ _)) | (go_at_call 50; exact Cls.calls (rvdot_any _ _ _ _ _ _ _)) | (go_at_call 51; exact Cls.calls (vcross_any _ _ _ _ _ _ _)) | (go_at_call 52; exact Cls.calls (rvcross_any _ _ _ _ _ _ _)) | (go_at_call 53; exact Cls.calls (vlen_any _ _ _ _)) | (go_at_call 54; exact Cls.calls (rvlen_any _ _ _ _)) | (go_at_call 55; exact Cls.calls (vunit_any _ _ _ _)) | (go_at_call 56; exact Cls.calls (rvunit_any _ _ _ _)) | (go_at_call 57; exact Cls.calls (vwidest_any _ _ _ _)) | (go_at_call 58; exact Cls.calls (rvwidest_any _ _ _ _)) | (go_at_call 29; exact Cls.calls (vat_any _ _ _ _ _)))))
  refine wpQuiet_nil ?_
  rintro ⟨W3, hw3⟩
  go_wp2
  go_ret
  exact ⟨rfl, below_then hw3 hb⟩
set_option maxRecDepth 100000 in
set_option maxHeartbeats 1000000 in
theorem vecProducts_1 (a0 a1 a2 b0 b1 b2 : Int) (w : World) : Calls Try.prog 8 #[.agg #[.int .i64 a0, .int .i64 a1, .int .i64 a2], .agg #[.int .i64 b0, .int .i64 b1, .int .i64 b2], .int .i64 1] w fun e w' => e = .returned (.bool true) ∧ Below w.heap.size w w' := by
  have t1 : vatS a0 a1 a2 1 = a1 := rfl
  go_enter Try.func8, Try.ntmps8
  go_upto_region 1 with fail
  refine wp_world (fun W => W.heap[w.heap.size]? = some (.cells #[.int .i64 a0, .int .i64 a1, .int .i64 a2] 23 (0, 0)) ∧ W.heap[w.heap.size + 1]? = some (.cells #[.int .i64 b0, .int .i64 b1, .int .i64 b2] 23 (0, 0)) ∧ w.heap.size + 1 < W.heap.size ∧ Below w.heap.size w W) ⟨blk_old _ (heap_new _ _ _ (by simp)), heap_new _ _ _ (by simp), by simp, by go_grown⟩ ?_
  rintro W ⟨hA, hB, hz, hb⟩
  have c0 := blk_cls (i := 0) (v := .int .i64 a0) hA rfl
  have c1 := blk_cls (i := 1) (v := .int .i64 a1) hA rfl
  have c2 := blk_cls (i := 2) (v := .int .i64 a2) hA rfl
  have d0 := blk_cls (i := 0) (v := .int .i64 b0) hB rfl
  have d1 := blk_cls (i := 1) (v := .int .i64 b1) hB rfl
  have d2 := blk_cls (i := 2) (v := .int .i64 b2) hB rfl
  refine wp_region_fresh 6 [(4, 7, .cells #[.int .i64 0, .int .i64 0, .int .i64 0] 26 (0, 0)), (5, 8, .cells #[.int .i64 0, .int .i64 0, .int .i64 0] 26 (0, 0))] [.agg #[.int .i64 a0, .int .i64 a1, .int .i64 a2], .agg #[.int .i64 a0, .int .i64 a1, .int .i64 a2], .agg #[.int .i64 b0, .int .i64 b1, .int .i64 b2], .agg #[.int .i64 b0, .int .i64 b1, .int .i64 b2]] (by kernel_rfl) (by kernel_rfl) ⟨fun e he => by simp only [List.mem_cons, List.not_mem_nil, or_false] at he; rcases he with rfl | rfl <;> exact ⟨_, rfl, rfl, rfl, fun a w => by kernel_rfl⟩, by simp, by simp, by simp, other_of (by kernel_rfl)⟩ ?_ (laid_all (by simp) (by simp; constructor <;> kernel_rfl))
  simp only [List.take_succ_cons, List.take_zero, List.drop_succ_cons, List.drop_zero]
  refine wpS_op _ (by rfl) rfl (by rfl) (fun s => by simp [c0, c1, c2, go_sem, strongUpon]) ?_
  refine wpS_op _ (by rfl) rfl (by rfl) (fun s => by simp [go_sem]; exact strong_call (to02_any _ _ _ _)) ?_
  refine wpS_op _ (by rfl) rfl (by rfl) (fun s => by simp [d0, d1, d2, go_sem, strongUpon]) ?_
  refine wpS_op _ (by rfl) rfl (by rfl) (fun s => by simp [go_sem]; exact strong_call (to02_any _ _ _ _)) ?_
  refine wpS_al (by rfl) fun x => ?_
  refine wpS_al (by rfl) fun y => ?_
  refine wpS_nil fun s hs => ?_
  obtain ⟨b, g1, g2, g3, g4⟩ := hs _ (List.Mem.head _)
  obtain ⟨b', k1, k2, k3, k4⟩ := hs _ (List.Mem.tail _ (List.Mem.head _))
  have g5 := g4 _ (List.Mem.tail _ (List.Mem.head _)) (by simp)
  simp [Act.put] at g1 k1 g5
  subst g1 k1
  clear hs g4 k4 c0 c1 c2 d0 d1 d2
  obtain ⟨W1, hb1⟩ := s
  simp only [Act.put, List.setIfInBounds_toArray, List.set_cons_succ, List.set_cons_zero, List.getD_cons_zero, List.getD_cons_succ] at g2 k2 ⊢
  replace hA := heap_below hb1 hA
  replace hB := heap_below hb1 hB
  replace hb := below_then hb1 hb
  have hxA : w.heap.size < x := by omega
  have hyA : w.heap.size < y := by omega
  have hxB : w.heap.size + 1 < x := by omega
  have hyB : w.heap.size + 1 < y := by omega
  clear hb1 hz g3 k3
  have x0 := blk_cell (i := 0) (v := .int .i64 0) g2 rfl
  have ux0 := blk_free (i := 0) g2
  have x1 := blk_cell (i := 1) (v := .int .i64 0) g2 rfl
  have ux1 := blk_free (i := 1) g2
  have x2 := blk_cell (i := 2) (v := .int .i64 0) g2 rfl
  have ux2 := blk_free (i := 2) g2
  have y0 := blk_cell (i := 0) (v := .int .i64 0) k2 rfl
  have uy0 := blk_free (i := 0) k2
  have y1 := blk_cell (i := 1) (v := .int .i64 0) k2 rfl
  have uy1 := blk_free (i := 1) k2
  have y2 := blk_cell (i := 2) (v := .int .i64 0) k2 rfl
  have uy2 := blk_free (i := 2) k2
  have g6 : ¬ x = y := fun h => g5 h.symm
  go_upto_region 2 with fail
  refine wp_world (fun W => W.heap[w.heap.size]? = some (.cells #[.int .i64 a0, .int .i64 a1, .int .i64 a2] 23 (0, 0)) ∧ W.heap[w.heap.size + 1]? = some (.cells #[.int .i64 b0, .int .i64 b1, .int .i64 b2] 23 (0, 0)) ∧ W.heap[x]? = some (.cells #[.int .i64 a0, .int .i64 a1, .int .i64 a2] 26 (0, 0)) ∧ W.heap[y]? = some (.cells #[.int .i64 b0, .int .i64 b1, .int .i64 b2] 26 (0, 0)) ∧ Below w.heap.size w W)
    ⟨blk_other _ (blk_other _ (blk_other _ (blk_other _ (blk_other _ (blk_other _ hA (by simp; omega)) (by simp; omega)) (by simp; omega)) (by simp; omega)) (by simp; omega)) (by simp; omega), blk_other _ (blk_other _ (blk_other _ (blk_other _ (blk_other _ (blk_other _ hB (by simp; omega)) (by simp; omega)) (by simp; omega)) (by simp; omega)) (by simp; omega)) (by simp; omega), blk_other _ (blk_other _ (blk_other _ (blk_set _ (blk_set _ (blk_set _ g2))) (by simp; omega)) (by simp; omega)) (by simp; omega), blk_set _ (blk_set _ (blk_set _ (blk_other _ (blk_other _ (blk_other _ k2 (by simp; omega)) (by simp; omega)) (by simp; omega)))), (((((hb.setCell (by simp; omega) _).setCell (by simp; omega) _).setCell (by simp; omega) _).setCell (by simp; omega) _).setCell (by simp; omega) _).setCell (by simp; omega) _⟩ ?_
  clear hA hB hb g2 k2 x0 x1 x2 y0 y1 y2 ux0 ux1 ux2 uy0 uy1 uy2
  rintro W2 ⟨hA, hB, hX, hY, hb⟩
  have e2 := blk_cell (i := 2) (v := .int .i64 a2) hA rfl
  have e1 := blk_cell (i := 1) (v := .int .i64 a1) hA rfl
  go_wp2_with fail
  clear e2 e1
  have c0 := blk_cls (i := 0) (v := .int .i64 a0) hA rfl
  have c1 := blk_cls (i := 1) (v := .int .i64 a1) hA rfl
  have c2 := blk_cls (i := 2) (v := .int .i64 a2) hA rfl
  have d0 := blk_cls (i := 0) (v := .int .i64 b0) hB rfl
  have d1 := blk_cls (i := 1) (v := .int .i64 b1) hB rfl
  have d2 := blk_cls (i := 2) (v := .int .i64 b2) hB rfl
  have p0 := blk_cls (i := 0) (v := .int .i64 a0) hX rfl
  have p1 := blk_cls (i := 1) (v := .int .i64 a1) hX rfl
  have p2 := blk_cls (i := 2) (v := .int .i64 a2) hX rfl
  have q0 := blk_cls (i := 0) (v := .int .i64 b0) hY rfl
  have q1 := blk_cls (i := 1) (v := .int .i64 b1) hY rfl
  have q2 := blk_cls (i := 2) (v := .int .i64 b2) hY rfl
  clear hA hB hX hY
  have he := fun (a b c a' b' c' : Int) (w : World) => run_eql_arr3 (P := Try.prog) (T := 23) Try.underlying23 Try.underlying2 (by kernel_rfl) (by kernel_rfl) a b c a' b' c' w
  refine wp_region_cls (by kernel_rfl) (by kernel_rfl) ?_
  repeat (go_big_quiet_step ((first | (go_at_call 16; exact Cls.calls (awake02_any _)) | (go_at_call 17; exact Cls.calls (from02_any _ _ _ _)) | (go_at_call 49; exact Cls.calls (vdot_any _ _ _ _ _ _ _)) | (go_at_call 50; exact Cls.calls (rvdot_any _ _ _ _ _ _ _)) | (go_at_call 51; exact Cls.calls (vcross_any _ _ _ _ _ _ _)) | (go_at_call 52; exact Cls.calls (rvcross_any _ _ _ _ _ _ _)) | (go_at_call 53; exact Cls.calls (vlen_any _ _ _ _)) | (go_at_call 54; exact Cls.calls (rvlen_any _ _ _ _)) | (go_at_call 55; exact Cls.calls (vunit_any _ _ _ _)) | (go_at_call 56; exact Cls.calls (rvunit_any _ _ _ _)) | (go_at_call 57; exact Cls.calls (vwidest_any _ _ _ _)) | (go_at_call 58; exact Cls.calls (rvwidest_any _ _ _ _)) | (go_at_call 29; exact Cls.calls (vat_any _ _ _ _ _)))))
  refine wpQuiet_nil ?_
  rintro ⟨W3, hw3⟩
  go_wp2
  go_ret
  exact ⟨rfl, below_then hw3 hb⟩
set_option maxRecDepth 100000 in
set_option maxHeartbeats 1000000 in
theorem vecProducts_k (a0 a1 a2 b0 b1 b2 k : Int) (w : World) (h0 : k ≠ 0) (h1 : k ≠ 1) : Calls Try.prog 8 #[.agg #[.int .i64 a0, .int .i64 a1, .int .i64 a2], .agg #[.int .i64 b0, .int .i64 b1, .int .i64 b2], .int .i64 k] w fun e w' => e = .returned (.bool true) ∧ Below w.heap.size w w' := by
  have b0' : (k == 0) = false := by simpa using h0
  have b1' : (k == 1) = false := by simpa using h1
  have tk : vatS a0 a1 a2 k = a2 := by unfold vatS; rw [if_neg h0, if_neg h1]
  clear h0 h1
  go_enter Try.func8, Try.ntmps8
  go_upto_region 1 with fail
  refine wp_world (fun W => W.heap[w.heap.size]? = some (.cells #[.int .i64 a0, .int .i64 a1, .int .i64 a2] 23 (0, 0)) ∧ W.heap[w.heap.size + 1]? = some (.cells #[.int .i64 b0, .int .i64 b1, .int .i64 b2] 23 (0, 0)) ∧ w.heap.size + 1 < W.heap.size ∧ Below w.heap.size w W) ⟨blk_old _ (heap_new _ _ _ (by simp)), heap_new _ _ _ (by simp), by simp, by go_grown⟩ ?_
  rintro W ⟨hA, hB, hz, hb⟩
  have c0 := blk_cls (i := 0) (v := .int .i64 a0) hA rfl
  have c1 := blk_cls (i := 1) (v := .int .i64 a1) hA rfl
  have c2 := blk_cls (i := 2) (v := .int .i64 a2) hA rfl
  have d0 := blk_cls (i := 0) (v := .int .i64 b0) hB rfl
  have d1 := blk_cls (i := 1) (v := .int .i64 b1) hB rfl
  have d2 := blk_cls (i := 2) (v := .int .i64 b2) hB rfl
  refine wp_region_fresh 6 [(4, 7, .cells #[.int .i64 0, .int .i64 0, .int .i64 0] 26 (0, 0)), (5, 8, .cells #[.int .i64 0, .int .i64 0, .int .i64 0] 26 (0, 0))] [.agg #[.int .i64 a0, .int .i64 a1, .int .i64 a2], .agg #[.int .i64 a0, .int .i64 a1, .int .i64 a2], .agg #[.int .i64 b0, .int .i64 b1, .int .i64 b2], .agg #[.int .i64 b0, .int .i64 b1, .int .i64 b2]] (by kernel_rfl) (by kernel_rfl) ⟨fun e he => by simp only [List.mem_cons, List.not_mem_nil, or_false] at he; rcases he with rfl | rfl <;> exact ⟨_, rfl, rfl, rfl, fun a w => by kernel_rfl⟩, by simp, by simp, by simp, other_of (by kernel_rfl)⟩ ?_ (laid_all (by simp) (by simp; constructor <;> kernel_rfl))
  simp only [List.take_succ_cons, List.take_zero, List.drop_succ_cons, List.drop_zero]
  refine wpS_op _ (by rfl) rfl (by rfl) (fun s => by simp [c0, c1, c2, go_sem, strongUpon]) ?_
  refine wpS_op _ (by rfl) rfl (by rfl) (fun s => by simp [go_sem]; exact strong_call (to02_any _ _ _ _)) ?_
  refine wpS_op _ (by rfl) rfl (by rfl) (fun s => by simp [d0, d1, d2, go_sem, strongUpon]) ?_
  refine wpS_op _ (by rfl) rfl (by rfl) (fun s => by simp [go_sem]; exact strong_call (to02_any _ _ _ _)) ?_
  refine wpS_al (by rfl) fun x => ?_
  refine wpS_al (by rfl) fun y => ?_
  refine wpS_nil fun s hs => ?_
  obtain ⟨b, g1, g2, g3, g4⟩ := hs _ (List.Mem.head _)
  obtain ⟨b', k1, k2, k3, k4⟩ := hs _ (List.Mem.tail _ (List.Mem.head _))
  have g5 := g4 _ (List.Mem.tail _ (List.Mem.head _)) (by simp)
  simp [Act.put] at g1 k1 g5
  subst g1 k1
  clear hs g4 k4 c0 c1 c2 d0 d1 d2
  obtain ⟨W1, hb1⟩ := s
  simp only [Act.put, List.setIfInBounds_toArray, List.set_cons_succ, List.set_cons_zero, List.getD_cons_zero, List.getD_cons_succ] at g2 k2 ⊢
  replace hA := heap_below hb1 hA
  replace hB := heap_below hb1 hB
  replace hb := below_then hb1 hb
  have hxA : w.heap.size < x := by omega
  have hyA : w.heap.size < y := by omega
  have hxB : w.heap.size + 1 < x := by omega
  have hyB : w.heap.size + 1 < y := by omega
  clear hb1 hz g3 k3
  have x0 := blk_cell (i := 0) (v := .int .i64 0) g2 rfl
  have ux0 := blk_free (i := 0) g2
  have x1 := blk_cell (i := 1) (v := .int .i64 0) g2 rfl
  have ux1 := blk_free (i := 1) g2
  have x2 := blk_cell (i := 2) (v := .int .i64 0) g2 rfl
  have ux2 := blk_free (i := 2) g2
  have y0 := blk_cell (i := 0) (v := .int .i64 0) k2 rfl
  have uy0 := blk_free (i := 0) k2
  have y1 := blk_cell (i := 1) (v := .int .i64 0) k2 rfl
  have uy1 := blk_free (i := 1) k2
  have y2 := blk_cell (i := 2) (v := .int .i64 0) k2 rfl
  have uy2 := blk_free (i := 2) k2
  have g6 : ¬ x = y := fun h => g5 h.symm
  go_upto_region 2 with fail
  refine wp_world (fun W => W.heap[w.heap.size]? = some (.cells #[.int .i64 a0, .int .i64 a1, .int .i64 a2] 23 (0, 0)) ∧ W.heap[w.heap.size + 1]? = some (.cells #[.int .i64 b0, .int .i64 b1, .int .i64 b2] 23 (0, 0)) ∧ W.heap[x]? = some (.cells #[.int .i64 a0, .int .i64 a1, .int .i64 a2] 26 (0, 0)) ∧ W.heap[y]? = some (.cells #[.int .i64 b0, .int .i64 b1, .int .i64 b2] 26 (0, 0)) ∧ Below w.heap.size w W)
    ⟨blk_other _ (blk_other _ (blk_other _ (blk_other _ (blk_other _ (blk_other _ hA (by simp; omega)) (by simp; omega)) (by simp; omega)) (by simp; omega)) (by simp; omega)) (by simp; omega), blk_other _ (blk_other _ (blk_other _ (blk_other _ (blk_other _ (blk_other _ hB (by simp; omega)) (by simp; omega)) (by simp; omega)) (by simp; omega)) (by simp; omega)) (by simp; omega), blk_other _ (blk_other _ (blk_other _ (blk_set _ (blk_set _ (blk_set _ g2))) (by simp; omega)) (by simp; omega)) (by simp; omega), blk_set _ (blk_set _ (blk_set _ (blk_other _ (blk_other _ (blk_other _ k2 (by simp; omega)) (by simp; omega)) (by simp; omega)))), (((((hb.setCell (by simp; omega) _).setCell (by simp; omega) _).setCell (by simp; omega) _).setCell (by simp; omega) _).setCell (by simp; omega) _).setCell (by simp; omega) _⟩ ?_
  clear hA hB hb g2 k2 x0 x1 x2 y0 y1 y2 ux0 ux1 ux2 uy0 uy1 uy2
  rintro W2 ⟨hA, hB, hX, hY, hb⟩
  have e2 := blk_cell (i := 2) (v := .int .i64 a2) hA rfl
  go_wp2_with fail
  clear e2
  have c0 := blk_cls (i := 0) (v := .int .i64 a0) hA rfl
  have c1 := blk_cls (i := 1) (v := .int .i64 a1) hA rfl
  have c2 := blk_cls (i := 2) (v := .int .i64 a2) hA rfl
  have d0 := blk_cls (i := 0) (v := .int .i64 b0) hB rfl
  have d1 := blk_cls (i := 1) (v := .int .i64 b1) hB rfl
  have d2 := blk_cls (i := 2) (v := .int .i64 b2) hB rfl
  have p0 := blk_cls (i := 0) (v := .int .i64 a0) hX rfl
  have p1 := blk_cls (i := 1) (v := .int .i64 a1) hX rfl
  have p2 := blk_cls (i := 2) (v := .int .i64 a2) hX rfl
  have q0 := blk_cls (i := 0) (v := .int .i64 b0) hY rfl
  have q1 := blk_cls (i := 1) (v := .int .i64 b1) hY rfl
  have q2 := blk_cls (i := 2) (v := .int .i64 b2) hY rfl
  clear hA hB hX hY
  have he := fun (a b c a' b' c' : Int) (w : World) => run_eql_arr3 (P := Try.prog) (T := 23) Try.underlying23 Try.underlying2 (by kernel_rfl) (by kernel_rfl) a b c a' b' c' w
  refine wp_region_cls (by kernel_rfl) (by kernel_rfl) ?_
  repeat (go_big_quiet_step ((first | (go_at_call 16; exact Cls.calls (awake02_any _)) | (go_at_call 17; exact Cls.calls (from02_any _ _ _ _)) | (go_at_call 49; exact Cls.calls (vdot_any _ _ _ _ _ _ _)) | (go_at_call 50; exact Cls.calls (rvdot_any _ _ _ _ _ _ _)) | (go_at_call 51; exact Cls.calls (vcross_any _ _ _ _ _ _ _)) | (go_at_call 52; exact Cls.calls (rvcross_any _ _ _ _ _ _ _)) | (go_at_call 53; exact Cls.calls (vlen_any _ _ _ _)) | (go_at_call 54; exact Cls.calls (rvlen_any _ _ _ _)) | (go_at_call 55; exact Cls.calls (vunit_any _ _ _ _)) | (go_at_call 56; exact Cls.calls (rvunit_any _ _ _ _)) | (go_at_call 57; exact Cls.calls (vwidest_any _ _ _ _)) | (go_at_call 58; exact Cls.calls (rvwidest_any _ _ _ _)) | (go_at_call 29; exact Cls.calls (vat_any _ _ _ _ _)))))
  refine wpQuiet_nil ?_
  rintro ⟨W3, hw3⟩
  go_wp2
  go_ret
  exact ⟨rfl, below_then hw3 hb⟩
theorem walk_VecProducts (a0 a1 a2 b0 b1 b2 k : Int) (w : World) (_ : (Lit.int .i64 a0).wf = true) (_ : (Lit.int .i64 a1).wf = true) (_ : (Lit.int .i64 a2).wf = true) (_ : (Lit.int .i64 b0).wf = true) (_ : (Lit.int .i64 b1).wf = true) (_ : (Lit.int .i64 b2).wf = true) (_ : (Lit.int .i64 k).wf = true) :
    Calls Try.prog 8 #[.agg #[.int .i64 a0, .int .i64 a1, .int .i64 a2], .agg #[.int .i64 b0, .int .i64 b1, .int .i64 b2], .int .i64 k] w fun e w' => e = .returned (.bool true) ∧ Below w.heap.size w w' := by
  by_cases h0 : k = 0
  · subst h0; exact vecProducts_0 _ _ _ _ _ _ w
  · by_cases h1 : k = 1
    · subst h1; exact vecProducts_1 _ _ _ _ _ _ w
    · exact vecProducts_k _ _ _ _ _ _ _ w h0 h1

end Go.Proofs.Ytaikocplcblnkaa
