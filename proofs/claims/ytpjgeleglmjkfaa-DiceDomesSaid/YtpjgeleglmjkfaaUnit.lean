/- Directions one long, by the program and by the reference. No condition. -/
import Derived.Test.YtpjgeleglmjkfaaProd
set_option linter.unusedVariables false
namespace Go.Proofs.Ytpjgeleglmjkfaa
open Go.RowKit

def vuS (a0 a1 a2 x : Int) : Int := if lenS a0 a1 a2 = 0 then 0 else divS x (lenS a0 a1 a2)
theorem vuS_zero {a0 a1 a2 : Int} (x : Int) (h : lenS a0 a1 a2 = 0) : vuS a0 a1 a2 x = 0 := by unfold vuS; rw [if_pos h]
theorem vuS_of {a0 a1 a2 : Int} (x : Int) (h : lenS a0 a1 a2 ≠ 0) : vuS a0 a1 a2 x = divS x (lenS a0 a1 a2) := by unfold vuS; rw [if_neg h]
theorem vunit_any (a0 a1 a2 : Int) (w : World) : Calls Try.prog 45 #[.agg #[.int .i64 a0, .int .i64 a1, .int .i64 a2]] w fun e w' => e = .returned (.agg #[.int .i64 (vuS a0 a1 a2 a0), .int .i64 (vuS a0 a1 a2 a1), .int .i64 (vuS a0 a1 a2 a2)]) ∧ Below w.heap.size w w' := by
  by_cases h : lenS a0 a1 a2 = 0
  · have E0 := Lib.hid (vuS_zero a0 h)
    have E1 := Lib.hid (vuS_zero a1 h)
    have E2 := Lib.hid (vuS_zero a2 h)
    have hz0 : (lenS a0 a1 a2 == 0) = true := by simp [h]
    clear h
    rw [E0.out, E1.out, E2.out]
    clear E0 E1 E2
    go_enter Try.func45, Try.ntmps45
    go_wp2_with fail
    refine calls_world (fun W => W.heap[w.heap.size]? = some (.cells #[.int .i64 a0, .int .i64 a1, .int .i64 a2] 68 (0, 0)) ∧ W.heap[w.heap.size + 1]? = some (.cells #[.int .i64 0, .int .i64 0, .int .i64 0] 68 (0, 0)) ∧ w.heap.size + 1 < W.heap.size ∧ Below w.heap.size w W) ⟨blk_old _ (heap_new _ _ _ (by simp)), heap_new _ _ _ (by simp), by simp, by go_grown⟩ ?_
    rintro W ⟨hA0, hR, hz, hb⟩
    refine (vlen_any _ _ _ _).mono ?_
    rintro e W1 ⟨rfl, hb1⟩
    replace hA0 := heap_below hb1 hA0
    replace hR := heap_below hb1 hR
    replace hz := Nat.lt_of_lt_of_le hz hb1.size
    replace hb := below_then hb1 hb
    clear hb1
    have r0 := blk_cell (i := 0) (v := .int .i64 0) hR rfl
    have f0 := blk_free (i := 0) hR
    have r1 := blk_cell (i := 1) (v := .int .i64 0) hR rfl
    have f1 := blk_free (i := 1) hR
    have r2 := blk_cell (i := 2) (v := .int .i64 0) hR rfl
    have f2 := blk_free (i := 2) hR
    go_wp2
    refine bodyPost_ret (v := .agg #[.int .i64 0, .int .i64 0, .int .i64 0]) (by simp [results, Try.results45, go_sem, r0, r1, r2]) rfl ⟨rfl, ?_⟩
    exact ((hb.setCell (by simp; try omega) _).setCell (by simp; try omega) _).setCell (by simp; try omega) _
  · have E0 := Lib.hid (vuS_of a0 h)
    have E1 := Lib.hid (vuS_of a1 h)
    have E2 := Lib.hid (vuS_of a2 h)
    have hz0 : (lenS a0 a1 a2 == 0) = false := by simp [h]
    clear h
    rw [E0.out, E1.out, E2.out]
    clear E0 E1 E2
    go_enter Try.func45, Try.ntmps45
    go_wp2_with fail
    refine calls_world (fun W => W.heap[w.heap.size]? = some (.cells #[.int .i64 a0, .int .i64 a1, .int .i64 a2] 68 (0, 0)) ∧ W.heap[w.heap.size + 1]? = some (.cells #[.int .i64 0, .int .i64 0, .int .i64 0] 68 (0, 0)) ∧ w.heap.size + 1 < W.heap.size ∧ Below w.heap.size w W) ⟨blk_old _ (heap_new _ _ _ (by simp)), heap_new _ _ _ (by simp), by simp, by go_grown⟩ ?_
    rintro W ⟨hA0, hR, hz, hb⟩
    refine (vlen_any _ _ _ _).mono ?_
    rintro e W1 ⟨rfl, hb1⟩
    replace hA0 := heap_below hb1 hA0
    replace hR := heap_below hb1 hR
    replace hz := Nat.lt_of_lt_of_le hz hb1.size
    replace hb := below_then hb1 hb
    clear hb1
    go_wp2
    have c0 := blk_cls (i := 0) (v := .int .i64 a0) hA0 rfl
    have c1 := blk_cls (i := 1) (v := .int .i64 a1) hA0 rfl
    have c2 := blk_cls (i := 2) (v := .int .i64 a2) hA0 rfl
    refine wp_region_cls_tail 13 (by kernel_rfl) (by kernel_rfl) ?_
    simp only [List.take_succ_cons, List.take_zero, List.drop_succ_cons, List.drop_zero]
    repeat (go_big_quiet_step ((first | (go_at_call 65; exact Cls.calls_same (fdiv_any _ _ _)))))
    refine wpQuiet_nil ?_
    rintro ⟨W2, hb2⟩
    replace hR := heap_below hb2 hR
    replace hb := below_then hb2 hb
    dsimp only
    clear hb2 hz c0 c1 c2 hA0
    have r0 := blk_cell (i := 0) (v := .int .i64 0) hR rfl
    have f0 := blk_free (i := 0) hR
    have r1 := blk_cell (i := 1) (v := .int .i64 0) hR rfl
    have f1 := blk_free (i := 1) hR
    have r2 := blk_cell (i := 2) (v := .int .i64 0) hR rfl
    have f2 := blk_free (i := 2) hR
    go_wp2
    refine bodyPost_ret (v := .agg #[.int .i64 (divS a0 (lenS a0 a1 a2)), .int .i64 (divS a1 (lenS a0 a1 a2)), .int .i64 (divS a2 (lenS a0 a1 a2))]) (by simp [results, Try.results45, go_sem, r0, r1, r2]) rfl ⟨rfl, ?_⟩
    exact ((hb.setCell (by simp; try omega) _).setCell (by simp; try omega) _).setCell (by simp; try omega) _

theorem rvunit_any (a0 a1 a2 : Int) (w : World) : Calls Try.prog 60 #[.agg #[.int .i64 a0, .int .i64 a1, .int .i64 a2]] w fun e w' => e = .returned (.agg #[.int .i64 (vuS a0 a1 a2 a0), .int .i64 (vuS a0 a1 a2 a1), .int .i64 (vuS a0 a1 a2 a2)]) ∧ Below w.heap.size w w' := by
  by_cases h : lenS a0 a1 a2 = 0
  · have E0 := Lib.hid (vuS_zero a0 h)
    have E1 := Lib.hid (vuS_zero a1 h)
    have E2 := Lib.hid (vuS_zero a2 h)
    have hz0 : (lenS a0 a1 a2 == 0) = true := by simp [h]
    clear h
    rw [E0.out, E1.out, E2.out]
    clear E0 E1 E2
    go_enter Try.func60, Try.ntmps60
    go_wp2_with fail
    refine calls_world (fun W => W.heap[w.heap.size]? = some (.cells #[.int .i64 a0, .int .i64 a1, .int .i64 a2] 66 (0, 0)) ∧ W.heap[w.heap.size + 1]? = some (.cells #[.int .i64 0, .int .i64 0, .int .i64 0] 66 (0, 0)) ∧ w.heap.size + 1 < W.heap.size ∧ Below w.heap.size w W) ⟨blk_old _ (heap_new _ _ _ (by simp)), heap_new _ _ _ (by simp), by simp, by go_grown⟩ ?_
    rintro W ⟨hA0, hR, hz, hb⟩
    refine (rvlen_any _ _ _ _).mono ?_
    rintro e W1 ⟨rfl, hb1⟩
    replace hA0 := heap_below hb1 hA0
    replace hR := heap_below hb1 hR
    replace hz := Nat.lt_of_lt_of_le hz hb1.size
    replace hb := below_then hb1 hb
    clear hb1
    have r0 := blk_cell (i := 0) (v := .int .i64 0) hR rfl
    have f0 := blk_free (i := 0) hR
    have r1 := blk_cell (i := 1) (v := .int .i64 0) hR rfl
    have f1 := blk_free (i := 1) hR
    have r2 := blk_cell (i := 2) (v := .int .i64 0) hR rfl
    have f2 := blk_free (i := 2) hR
    go_wp2
    refine bodyPost_ret (v := .agg #[.int .i64 0, .int .i64 0, .int .i64 0]) (by simp [results, Try.results60, go_sem, r0, r1, r2]) rfl ⟨rfl, ?_⟩
    exact ((hb.setCell (by simp; try omega) _).setCell (by simp; try omega) _).setCell (by simp; try omega) _
  · have E0 := Lib.hid (vuS_of a0 h)
    have E1 := Lib.hid (vuS_of a1 h)
    have E2 := Lib.hid (vuS_of a2 h)
    have hz0 : (lenS a0 a1 a2 == 0) = false := by simp [h]
    clear h
    rw [E0.out, E1.out, E2.out]
    clear E0 E1 E2
    go_enter Try.func60, Try.ntmps60
    go_wp2_with fail
    refine calls_world (fun W => W.heap[w.heap.size]? = some (.cells #[.int .i64 a0, .int .i64 a1, .int .i64 a2] 66 (0, 0)) ∧ W.heap[w.heap.size + 1]? = some (.cells #[.int .i64 0, .int .i64 0, .int .i64 0] 66 (0, 0)) ∧ w.heap.size + 1 < W.heap.size ∧ Below w.heap.size w W) ⟨blk_old _ (heap_new _ _ _ (by simp)), heap_new _ _ _ (by simp), by simp, by go_grown⟩ ?_
    rintro W ⟨hA0, hR, hz, hb⟩
    refine (rvlen_any _ _ _ _).mono ?_
    rintro e W1 ⟨rfl, hb1⟩
    replace hA0 := heap_below hb1 hA0
    replace hR := heap_below hb1 hR
    replace hz := Nat.lt_of_lt_of_le hz hb1.size
    replace hb := below_then hb1 hb
    clear hb1
    obtain ⟨o, ho⟩ : ∃ o, o = W1.heap.size := ⟨_, rfl⟩
    have HO := Lib.hid ho
    have hlt : w.heap.size + 1 < o := by omega
    clear ho
    go_wp2
    rw [← HO.out]
    refine wp_world (fun W => W.heap[w.heap.size]? = some (.cells #[.int .i64 a0, .int .i64 a1, .int .i64 a2] 66 (0, 0)) ∧ W.heap[w.heap.size + 1]? = some (.cells #[.int .i64 0, .int .i64 0, .int .i64 0] 66 (0, 0)) ∧ W.heap[o]? = some (.cells #[.int .i64 0, .int .i64 0, .int .i64 0] 66 (0, 0)) ∧ Below w.heap.size w W) ⟨blk_old _ hA0, blk_old _ hR, heap_new _ _ _ HO.out, hb.alloc hb.size _⟩ ?_
    clear hA0 hR hz hb HO
    rintro W2 ⟨hA0, hR, hO, hb⟩
    refine wp_loop_rounds 4 ?_
    rw [rounds_succ]
    have c := blk_cell (i := 0) (v := .int .i64 a0) hA0 rfl
    have f := blk_free (i := 0) hO
    have k := blk_cell (i := 0) (v := .int .i64 0) hO rfl
    go_wp2_with (go_at_call 76; refine (rdiv_any _ _ _).mono ?_; rintro e w' ⟨rfl, rfl⟩)
    clear c f k
    refine wp_rounds_world (fun W => W.heap[w.heap.size]? = some (.cells #[.int .i64 a0, .int .i64 a1, .int .i64 a2] 66 (0, 0)) ∧ W.heap[w.heap.size + 1]? = some (.cells #[.int .i64 0, .int .i64 0, .int .i64 0] 66 (0, 0)) ∧ W.heap[o]? = some (.cells #[.int .i64 (divS a0 (lenS a0 a1 a2)), .int .i64 0, .int .i64 0] 66 (0, 0)) ∧ Below w.heap.size w W) ⟨blk_other _ hA0 (by simp; try omega), blk_other _ hR (by simp; try omega), blk_set _ hO, hb.setCell (by simp; try omega) _⟩ ?_
    clear hA0 hR hO hb W2
    rintro W2 ⟨hA0, hR, hO, hb⟩
    rw [rounds_succ]
    have c := blk_cell (i := 1) (v := .int .i64 a1) hA0 rfl
    have f := blk_free (i := 1) hO
    have k := blk_cell (i := 1) (v := .int .i64 0) hO rfl
    go_wp2_with (go_at_call 76; refine (rdiv_any _ _ _).mono ?_; rintro e w' ⟨rfl, rfl⟩)
    clear c f k
    refine wp_rounds_world (fun W => W.heap[w.heap.size]? = some (.cells #[.int .i64 a0, .int .i64 a1, .int .i64 a2] 66 (0, 0)) ∧ W.heap[w.heap.size + 1]? = some (.cells #[.int .i64 0, .int .i64 0, .int .i64 0] 66 (0, 0)) ∧ W.heap[o]? = some (.cells #[.int .i64 (divS a0 (lenS a0 a1 a2)), .int .i64 (divS a1 (lenS a0 a1 a2)), .int .i64 0] 66 (0, 0)) ∧ Below w.heap.size w W) ⟨blk_other _ hA0 (by simp; try omega), blk_other _ hR (by simp; try omega), blk_set _ hO, hb.setCell (by simp; try omega) _⟩ ?_
    clear hA0 hR hO hb W2
    rintro W2 ⟨hA0, hR, hO, hb⟩
    rw [rounds_succ]
    have c := blk_cell (i := 2) (v := .int .i64 a2) hA0 rfl
    have f := blk_free (i := 2) hO
    have k := blk_cell (i := 2) (v := .int .i64 0) hO rfl
    go_wp2_with (go_at_call 76; refine (rdiv_any _ _ _).mono ?_; rintro e w' ⟨rfl, rfl⟩)
    clear c f k
    refine wp_rounds_world (fun W => W.heap[w.heap.size]? = some (.cells #[.int .i64 a0, .int .i64 a1, .int .i64 a2] 66 (0, 0)) ∧ W.heap[w.heap.size + 1]? = some (.cells #[.int .i64 0, .int .i64 0, .int .i64 0] 66 (0, 0)) ∧ W.heap[o]? = some (.cells #[.int .i64 (divS a0 (lenS a0 a1 a2)), .int .i64 (divS a1 (lenS a0 a1 a2)), .int .i64 (divS a2 (lenS a0 a1 a2))] 66 (0, 0)) ∧ Below w.heap.size w W) ⟨blk_other _ hA0 (by simp; try omega), blk_other _ hR (by simp; try omega), blk_set _ hO, hb.setCell (by simp; try omega) _⟩ ?_
    clear hA0 hR hO hb W2
    rintro W2 ⟨hA0, hR, hO, hb⟩
    rw [rounds_succ]
    have o0 := blk_cell (i := 0) (v := .int .i64 (divS a0 (lenS a0 a1 a2))) hO rfl
    have o1 := blk_cell (i := 1) (v := .int .i64 (divS a1 (lenS a0 a1 a2))) hO rfl
    have o2 := blk_cell (i := 2) (v := .int .i64 (divS a2 (lenS a0 a1 a2))) hO rfl
    have r0 := blk_cell (i := 0) (v := .int .i64 0) hR rfl
    have f0 := blk_free (i := 0) hR
    have r1 := blk_cell (i := 1) (v := .int .i64 0) hR rfl
    have f1 := blk_free (i := 1) hR
    have r2 := blk_cell (i := 2) (v := .int .i64 0) hR rfl
    have f2 := blk_free (i := 2) hR
    go_wp2
    refine bodyPost_ret (v := .agg #[.int .i64 (divS a0 (lenS a0 a1 a2)), .int .i64 (divS a1 (lenS a0 a1 a2)), .int .i64 (divS a2 (lenS a0 a1 a2))]) (by simp [results, Try.results60, go_sem, r0, r1, r2]) rfl ⟨rfl, ?_⟩
    exact ((hb.setCell (by simp; try omega) _).setCell (by simp; try omega) _).setCell (by simp; try omega) _

end Go.Proofs.Ytpjgeleglmjkfaa
