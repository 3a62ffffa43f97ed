/- The widest axis by the reference. No condition. -/
import Derived.Test.YtaikocplcblnkaaVec2
set_option linter.unusedVariables false
namespace Go.Proofs.Ytaikocplcblnkaa
open Go.RowKit

theorem ramount_any (a : Int) (w : World) :
    Calls Try.prog 99 #[.int .i64 a] w fun e w' => e = .returned (.int .i64 (absS a)) ∧ w = w' := by
  have ha := heldS_bd a
  rcases (by omega : heldS a < 0 ∨ 0 ≤ heldS a) with h | h
  · skip
    go_enter Try.func99, Try.ntmps99
    go_wp2_with (go_at_call 28; refine (held_any _ _).mono ?_; rintro e w' ⟨rfl, rfl⟩)
    go_ret
    exact ⟨by unfold absS; rw [if_neg (by omega)]; rfl, rfl⟩
  · skip
    go_enter Try.func99, Try.ntmps99
    go_wp2_with (go_at_call 28; refine (held_any _ _).mono ?_; rintro e w' ⟨rfl, rfl⟩)
    go_ret
    exact ⟨by unfold absS; rw [if_pos h]; rfl, rfl⟩

theorem rvwidest_0 (a0 a1 a2 : Int) (w : World) (h1 : absS a1 ≤ absS a0) (h2 : absS a2 ≤ absS a0) (h3 : absS a2 ≤ absS a1) : Calls Try.prog 58 #[.agg #[.int .i64 a0, .int .i64 a1, .int .i64 a2]] w fun e w' => e = .returned (.int .i64 0) ∧ Below w.heap.size w w' := by
  have q10 : decide (absS a1 ≤ absS a0) = true := by simp; omega
  have q20 : decide (absS a2 ≤ absS a0) = true := by simp; omega
  have q21 : decide (absS a2 ≤ absS a1) = true := by simp; omega
  go_enter Try.func58, Try.ntmps58
  go_wp2
  refine wp_world (fun W => W.heap[w.heap.size]? = some (.cells #[.int .i64 a0, .int .i64 a1, .int .i64 a2] 23 (0, 0)) ∧ Below w.heap.size w W) ⟨heap_new _ _ _ (by simp), by go_grown⟩ ?_
  rintro W ⟨hA, hb⟩
  refine wp_loop_rounds 4 ?_
  rw [rounds_succ]
  go_wp2
  have c0 := blk_cls (i := 0) (v := .int .i64 a0) hA rfl
  have c1 := blk_cls (i := 1) (v := .int .i64 a1) hA rfl
  have c2 := blk_cls (i := 2) (v := .int .i64 a2) hA rfl
  refine wp_region_cls (by kernel_rfl) (by kernel_rfl) ?_
  repeat (go_big_quiet_step ((go_at_call 99; exact Cls.calls_same (ramount_any _ _))))
  refine wpQuiet_nil ?_
  rintro ⟨W1, hb1⟩
  replace hA := heap_below hb1 hA
  replace hb := below_then hb1 hb
  dsimp only
  clear hb1 c0 c1 c2
  go_wp2
  go_ret
  exact ⟨rfl, hb⟩
theorem rvwidest_1 (a0 a1 a2 : Int) (w : World) (h1 : absS a1 ≤ absS a0) (h2 : absS a2 ≤ absS a0) (h3 : absS a1 < absS a2) : Calls Try.prog 58 #[.agg #[.int .i64 a0, .int .i64 a1, .int .i64 a2]] w fun e w' => e = .returned (.int .i64 0) ∧ Below w.heap.size w w' := by
  have q10 : decide (absS a1 ≤ absS a0) = true := by simp; omega
  have q20 : decide (absS a2 ≤ absS a0) = true := by simp; omega
  have q21 : decide (absS a2 ≤ absS a1) = false := by simp; omega
  have q12 : decide (absS a1 ≤ absS a2) = true := by simp; omega
  go_enter Try.func58, Try.ntmps58
  go_wp2
  refine wp_world (fun W => W.heap[w.heap.size]? = some (.cells #[.int .i64 a0, .int .i64 a1, .int .i64 a2] 23 (0, 0)) ∧ Below w.heap.size w W) ⟨heap_new _ _ _ (by simp), by go_grown⟩ ?_
  rintro W ⟨hA, hb⟩
  refine wp_loop_rounds 4 ?_
  rw [rounds_succ]
  go_wp2
  have c0 := blk_cls (i := 0) (v := .int .i64 a0) hA rfl
  have c1 := blk_cls (i := 1) (v := .int .i64 a1) hA rfl
  have c2 := blk_cls (i := 2) (v := .int .i64 a2) hA rfl
  refine wp_region_cls (by kernel_rfl) (by kernel_rfl) ?_
  repeat (go_big_quiet_step ((go_at_call 99; exact Cls.calls_same (ramount_any _ _))))
  refine wpQuiet_nil ?_
  rintro ⟨W1, hb1⟩
  replace hA := heap_below hb1 hA
  replace hb := below_then hb1 hb
  dsimp only
  clear hb1 c0 c1 c2
  go_wp2
  go_ret
  exact ⟨rfl, hb⟩
theorem rvwidest_2 (a0 a1 a2 : Int) (w : World) (h1 : absS a1 ≤ absS a0) (h2 : absS a0 < absS a2) (h3 : absS a1 < absS a2) : Calls Try.prog 58 #[.agg #[.int .i64 a0, .int .i64 a1, .int .i64 a2]] w fun e w' => e = .returned (.int .i64 2) ∧ Below w.heap.size w w' := by
  rcases Int.lt_or_le (absS a1) (absS a0) with h4 | h4
  · have q01 : decide (absS a0 ≤ absS a1) = false := by simp; omega
    have q10 : decide (absS a1 ≤ absS a0) = true := by simp; omega
    have q20 : decide (absS a2 ≤ absS a0) = false := by simp; omega
    have q21 : decide (absS a2 ≤ absS a1) = false := by simp; omega
    have q02 : decide (absS a0 ≤ absS a2) = true := by simp; omega
    have q12 : decide (absS a1 ≤ absS a2) = true := by simp; omega
    go_enter Try.func58, Try.ntmps58
    go_wp2
    refine wp_world (fun W => W.heap[w.heap.size]? = some (.cells #[.int .i64 a0, .int .i64 a1, .int .i64 a2] 23 (0, 0)) ∧ Below w.heap.size w W) ⟨heap_new _ _ _ (by simp), by go_grown⟩ ?_
    rintro W ⟨hA, hb⟩
    refine wp_loop_rounds 4 ?_
    rw [rounds_succ]
    go_wp2
    have c0 := blk_cls (i := 0) (v := .int .i64 a0) hA rfl
    have c1 := blk_cls (i := 1) (v := .int .i64 a1) hA rfl
    have c2 := blk_cls (i := 2) (v := .int .i64 a2) hA rfl
    refine wp_region_cls (by kernel_rfl) (by kernel_rfl) ?_
    repeat (go_big_quiet_step ((go_at_call 99; exact Cls.calls_same (ramount_any _ _))))
    refine wpQuiet_nil ?_
    rintro ⟨W1, hb1⟩
    replace hA := heap_below hb1 hA
    replace hb := below_then hb1 hb
    dsimp only
    clear hb1 c0 c1 c2
    go_wp2
    refine wp_rounds_world (fun W => W.heap[w.heap.size]? = some (.cells #[.int .i64 a0, .int .i64 a1, .int .i64 a2] 23 (0, 0)) ∧ Below w.heap.size w W) ⟨hA, hb⟩ ?_
    clear hA hb
    rintro W ⟨hA, hb⟩
    rw [rounds_succ]
    go_wp2
    have c0 := blk_cls (i := 0) (v := .int .i64 a0) hA rfl
    have c1 := blk_cls (i := 1) (v := .int .i64 a1) hA rfl
    have c2 := blk_cls (i := 2) (v := .int .i64 a2) hA rfl
    refine wp_region_cls (by kernel_rfl) (by kernel_rfl) ?_
    repeat (go_big_quiet_step ((go_at_call 99; exact Cls.calls_same (ramount_any _ _))))
    refine wpQuiet_nil ?_
    rintro ⟨W1, hb1⟩
    replace hA := heap_below hb1 hA
    replace hb := below_then hb1 hb
    dsimp only
    clear hb1 c0 c1 c2
    go_wp2
    refine wp_rounds_world (fun W => W.heap[w.heap.size]? = some (.cells #[.int .i64 a0, .int .i64 a1, .int .i64 a2] 23 (0, 0)) ∧ Below w.heap.size w W) ⟨hA, hb⟩ ?_
    clear hA hb
    rintro W ⟨hA, hb⟩
    rw [rounds_succ]
    go_wp2
    have c0 := blk_cls (i := 0) (v := .int .i64 a0) hA rfl
    have c1 := blk_cls (i := 1) (v := .int .i64 a1) hA rfl
    have c2 := blk_cls (i := 2) (v := .int .i64 a2) hA rfl
    refine wp_region_cls (by kernel_rfl) (by kernel_rfl) ?_
    repeat (go_big_quiet_step ((go_at_call 99; exact Cls.calls_same (ramount_any _ _))))
    refine wpQuiet_nil ?_
    rintro ⟨W1, hb1⟩
    replace hA := heap_below hb1 hA
    replace hb := below_then hb1 hb
    dsimp only
    clear hb1 c0 c1 c2
    go_wp2
    go_ret
    exact ⟨rfl, hb⟩
  · have q01 : decide (absS a0 ≤ absS a1) = true := by simp; omega
    have q10 : decide (absS a1 ≤ absS a0) = true := by simp; omega
    have q20 : decide (absS a2 ≤ absS a0) = false := by simp; omega
    have q21 : decide (absS a2 ≤ absS a1) = false := by simp; omega
    have q02 : decide (absS a0 ≤ absS a2) = true := by simp; omega
    have q12 : decide (absS a1 ≤ absS a2) = true := by simp; omega
    go_enter Try.func58, Try.ntmps58
    go_wp2
    refine wp_world (fun W => W.heap[w.heap.size]? = some (.cells #[.int .i64 a0, .int .i64 a1, .int .i64 a2] 23 (0, 0)) ∧ Below w.heap.size w W) ⟨heap_new _ _ _ (by simp), by go_grown⟩ ?_
    rintro W ⟨hA, hb⟩
    refine wp_loop_rounds 4 ?_
    rw [rounds_succ]
    go_wp2
    have c0 := blk_cls (i := 0) (v := .int .i64 a0) hA rfl
    have c1 := blk_cls (i := 1) (v := .int .i64 a1) hA rfl
    have c2 := blk_cls (i := 2) (v := .int .i64 a2) hA rfl
    refine wp_region_cls (by kernel_rfl) (by kernel_rfl) ?_
    repeat (go_big_quiet_step ((go_at_call 99; exact Cls.calls_same (ramount_any _ _))))
    refine wpQuiet_nil ?_
    rintro ⟨W1, hb1⟩
    replace hA := heap_below hb1 hA
    replace hb := below_then hb1 hb
    dsimp only
    clear hb1 c0 c1 c2
    go_wp2
    refine wp_rounds_world (fun W => W.heap[w.heap.size]? = some (.cells #[.int .i64 a0, .int .i64 a1, .int .i64 a2] 23 (0, 0)) ∧ Below w.heap.size w W) ⟨hA, hb⟩ ?_
    clear hA hb
    rintro W ⟨hA, hb⟩
    rw [rounds_succ]
    go_wp2
    have c0 := blk_cls (i := 0) (v := .int .i64 a0) hA rfl
    have c1 := blk_cls (i := 1) (v := .int .i64 a1) hA rfl
    have c2 := blk_cls (i := 2) (v := .int .i64 a2) hA rfl
    refine wp_region_cls (by kernel_rfl) (by kernel_rfl) ?_
    repeat (go_big_quiet_step ((go_at_call 99; exact Cls.calls_same (ramount_any _ _))))
    refine wpQuiet_nil ?_
    rintro ⟨W1, hb1⟩
    replace hA := heap_below hb1 hA
    replace hb := below_then hb1 hb
    dsimp only
    clear hb1 c0 c1 c2
    go_wp2
    refine wp_rounds_world (fun W => W.heap[w.heap.size]? = some (.cells #[.int .i64 a0, .int .i64 a1, .int .i64 a2] 23 (0, 0)) ∧ Below w.heap.size w W) ⟨hA, hb⟩ ?_
    clear hA hb
    rintro W ⟨hA, hb⟩
    rw [rounds_succ]
    go_wp2
    have c0 := blk_cls (i := 0) (v := .int .i64 a0) hA rfl
    have c1 := blk_cls (i := 1) (v := .int .i64 a1) hA rfl
    have c2 := blk_cls (i := 2) (v := .int .i64 a2) hA rfl
    refine wp_region_cls (by kernel_rfl) (by kernel_rfl) ?_
    repeat (go_big_quiet_step ((go_at_call 99; exact Cls.calls_same (ramount_any _ _))))
    refine wpQuiet_nil ?_
    rintro ⟨W1, hb1⟩
    replace hA := heap_below hb1 hA
    replace hb := below_then hb1 hb
    dsimp only
    clear hb1 c0 c1 c2
    go_wp2
    go_ret
    exact ⟨rfl, hb⟩
theorem rvwidest_3 (a0 a1 a2 : Int) (w : World) (h1 : absS a0 < absS a1) (h2 : absS a2 ≤ absS a0) (h3 : absS a2 ≤ absS a1) : Calls Try.prog 58 #[.agg #[.int .i64 a0, .int .i64 a1, .int .i64 a2]] w fun e w' => e = .returned (.int .i64 1) ∧ Below w.heap.size w w' := by
  have q10 : decide (absS a1 ≤ absS a0) = false := by simp; omega
  have q20 : decide (absS a2 ≤ absS a0) = true := by simp; omega
  have q21 : decide (absS a2 ≤ absS a1) = true := by simp; omega
  have q01 : decide (absS a0 ≤ absS a1) = true := by simp; omega
  go_enter Try.func58, Try.ntmps58
  go_wp2
  refine wp_world (fun W => W.heap[w.heap.size]? = some (.cells #[.int .i64 a0, .int .i64 a1, .int .i64 a2] 23 (0, 0)) ∧ Below w.heap.size w W) ⟨heap_new _ _ _ (by simp), by go_grown⟩ ?_
  rintro W ⟨hA, hb⟩
  refine wp_loop_rounds 4 ?_
  rw [rounds_succ]
  go_wp2
  have c0 := blk_cls (i := 0) (v := .int .i64 a0) hA rfl
  have c1 := blk_cls (i := 1) (v := .int .i64 a1) hA rfl
  have c2 := blk_cls (i := 2) (v := .int .i64 a2) hA rfl
  refine wp_region_cls (by kernel_rfl) (by kernel_rfl) ?_
  repeat (go_big_quiet_step ((go_at_call 99; exact Cls.calls_same (ramount_any _ _))))
  refine wpQuiet_nil ?_
  rintro ⟨W1, hb1⟩
  replace hA := heap_below hb1 hA
  replace hb := below_then hb1 hb
  dsimp only
  clear hb1 c0 c1 c2
  go_wp2
  refine wp_rounds_world (fun W => W.heap[w.heap.size]? = some (.cells #[.int .i64 a0, .int .i64 a1, .int .i64 a2] 23 (0, 0)) ∧ Below w.heap.size w W) ⟨hA, hb⟩ ?_
  clear hA hb
  rintro W ⟨hA, hb⟩
  rw [rounds_succ]
  go_wp2
  have c0 := blk_cls (i := 0) (v := .int .i64 a0) hA rfl
  have c1 := blk_cls (i := 1) (v := .int .i64 a1) hA rfl
  have c2 := blk_cls (i := 2) (v := .int .i64 a2) hA rfl
  refine wp_region_cls (by kernel_rfl) (by kernel_rfl) ?_
  repeat (go_big_quiet_step ((go_at_call 99; exact Cls.calls_same (ramount_any _ _))))
  refine wpQuiet_nil ?_
  rintro ⟨W1, hb1⟩
  replace hA := heap_below hb1 hA
  replace hb := below_then hb1 hb
  dsimp only
  clear hb1 c0 c1 c2
  go_wp2
  go_ret
  exact ⟨rfl, hb⟩
theorem rvwidest_4 (a0 a1 a2 : Int) (w : World) (h1 : absS a0 < absS a1) (h2 : absS a0 < absS a2) (h3 : absS a2 ≤ absS a1) : Calls Try.prog 58 #[.agg #[.int .i64 a0, .int .i64 a1, .int .i64 a2]] w fun e w' => e = .returned (.int .i64 1) ∧ Below w.heap.size w w' := by
  have q10 : decide (absS a1 ≤ absS a0) = false := by simp; omega
  have q20 : decide (absS a2 ≤ absS a0) = false := by simp; omega
  have q21 : decide (absS a2 ≤ absS a1) = true := by simp; omega
  have q01 : decide (absS a0 ≤ absS a1) = true := by simp; omega
  have q02 : decide (absS a0 ≤ absS a2) = true := by simp; omega
  go_enter Try.func58, Try.ntmps58
  go_wp2
  refine wp_world (fun W => W.heap[w.heap.size]? = some (.cells #[.int .i64 a0, .int .i64 a1, .int .i64 a2] 23 (0, 0)) ∧ Below w.heap.size w W) ⟨heap_new _ _ _ (by simp), by go_grown⟩ ?_
  rintro W ⟨hA, hb⟩
  refine wp_loop_rounds 4 ?_
  rw [rounds_succ]
  go_wp2
  have c0 := blk_cls (i := 0) (v := .int .i64 a0) hA rfl
  have c1 := blk_cls (i := 1) (v := .int .i64 a1) hA rfl
  have c2 := blk_cls (i := 2) (v := .int .i64 a2) hA rfl
  refine wp_region_cls (by kernel_rfl) (by kernel_rfl) ?_
  repeat (go_big_quiet_step ((go_at_call 99; exact Cls.calls_same (ramount_any _ _))))
  refine wpQuiet_nil ?_
  rintro ⟨W1, hb1⟩
  replace hA := heap_below hb1 hA
  replace hb := below_then hb1 hb
  dsimp only
  clear hb1 c0 c1 c2
  go_wp2
  refine wp_rounds_world (fun W => W.heap[w.heap.size]? = some (.cells #[.int .i64 a0, .int .i64 a1, .int .i64 a2] 23 (0, 0)) ∧ Below w.heap.size w W) ⟨hA, hb⟩ ?_
  clear hA hb
  rintro W ⟨hA, hb⟩
  rw [rounds_succ]
  go_wp2
  have c0 := blk_cls (i := 0) (v := .int .i64 a0) hA rfl
  have c1 := blk_cls (i := 1) (v := .int .i64 a1) hA rfl
  have c2 := blk_cls (i := 2) (v := .int .i64 a2) hA rfl
  refine wp_region_cls (by kernel_rfl) (by kernel_rfl) ?_
  repeat (go_big_quiet_step ((go_at_call 99; exact Cls.calls_same (ramount_any _ _))))
  refine wpQuiet_nil ?_
  rintro ⟨W1, hb1⟩
  replace hA := heap_below hb1 hA
  replace hb := below_then hb1 hb
  dsimp only
  clear hb1 c0 c1 c2
  go_wp2
  go_ret
  exact ⟨rfl, hb⟩
theorem rvwidest_5 (a0 a1 a2 : Int) (w : World) (h1 : absS a0 < absS a1) (h2 : absS a0 < absS a2) (h3 : absS a1 < absS a2) : Calls Try.prog 58 #[.agg #[.int .i64 a0, .int .i64 a1, .int .i64 a2]] w fun e w' => e = .returned (.int .i64 2) ∧ Below w.heap.size w w' := by
  have q10 : decide (absS a1 ≤ absS a0) = false := by simp; omega
  have q20 : decide (absS a2 ≤ absS a0) = false := by simp; omega
  have q21 : decide (absS a2 ≤ absS a1) = false := by simp; omega
  have q01 : decide (absS a0 ≤ absS a1) = true := by simp; omega
  have q02 : decide (absS a0 ≤ absS a2) = true := by simp; omega
  have q12 : decide (absS a1 ≤ absS a2) = true := by simp; omega
  go_enter Try.func58, Try.ntmps58
  go_wp2
  refine wp_world (fun W => W.heap[w.heap.size]? = some (.cells #[.int .i64 a0, .int .i64 a1, .int .i64 a2] 23 (0, 0)) ∧ Below w.heap.size w W) ⟨heap_new _ _ _ (by simp), by go_grown⟩ ?_
  rintro W ⟨hA, hb⟩
  refine wp_loop_rounds 4 ?_
  rw [rounds_succ]
  go_wp2
  have c0 := blk_cls (i := 0) (v := .int .i64 a0) hA rfl
  have c1 := blk_cls (i := 1) (v := .int .i64 a1) hA rfl
  have c2 := blk_cls (i := 2) (v := .int .i64 a2) hA rfl
  refine wp_region_cls (by kernel_rfl) (by kernel_rfl) ?_
  repeat (go_big_quiet_step ((go_at_call 99; exact Cls.calls_same (ramount_any _ _))))
  refine wpQuiet_nil ?_
  rintro ⟨W1, hb1⟩
  replace hA := heap_below hb1 hA
  replace hb := below_then hb1 hb
  dsimp only
  clear hb1 c0 c1 c2
  go_wp2
  refine wp_rounds_world (fun W => W.heap[w.heap.size]? = some (.cells #[.int .i64 a0, .int .i64 a1, .int .i64 a2] 23 (0, 0)) ∧ Below w.heap.size w W) ⟨hA, hb⟩ ?_
  clear hA hb
  rintro W ⟨hA, hb⟩
  rw [rounds_succ]
  go_wp2
  have c0 := blk_cls (i := 0) (v := .int .i64 a0) hA rfl
  have c1 := blk_cls (i := 1) (v := .int .i64 a1) hA rfl
  have c2 := blk_cls (i := 2) (v := .int .i64 a2) hA rfl
  refine wp_region_cls (by kernel_rfl) (by kernel_rfl) ?_
  repeat (go_big_quiet_step ((go_at_call 99; exact Cls.calls_same (ramount_any _ _))))
  refine wpQuiet_nil ?_
  rintro ⟨W1, hb1⟩
  replace hA := heap_below hb1 hA
  replace hb := below_then hb1 hb
  dsimp only
  clear hb1 c0 c1 c2
  go_wp2
  refine wp_rounds_world (fun W => W.heap[w.heap.size]? = some (.cells #[.int .i64 a0, .int .i64 a1, .int .i64 a2] 23 (0, 0)) ∧ Below w.heap.size w W) ⟨hA, hb⟩ ?_
  clear hA hb
  rintro W ⟨hA, hb⟩
  rw [rounds_succ]
  go_wp2
  have c0 := blk_cls (i := 0) (v := .int .i64 a0) hA rfl
  have c1 := blk_cls (i := 1) (v := .int .i64 a1) hA rfl
  have c2 := blk_cls (i := 2) (v := .int .i64 a2) hA rfl
  refine wp_region_cls (by kernel_rfl) (by kernel_rfl) ?_
  repeat (go_big_quiet_step ((go_at_call 99; exact Cls.calls_same (ramount_any _ _))))
  refine wpQuiet_nil ?_
  rintro ⟨W1, hb1⟩
  replace hA := heap_below hb1 hA
  replace hb := below_then hb1 hb
  dsimp only
  clear hb1 c0 c1 c2
  go_wp2
  go_ret
  exact ⟨rfl, hb⟩
theorem rvwidest_any (a0 a1 a2 : Int) (w : World) : Calls Try.prog 58 #[.agg #[.int .i64 a0, .int .i64 a1, .int .i64 a2]] w fun e w' => e = .returned (.int .i64 (widestS a0 a1 a2)) ∧ Below w.heap.size w w' := by
  rcases Int.lt_or_le (absS a0) (absS a1) with h1 | h1 <;> rcases Int.lt_or_le (absS a0) (absS a2) with h2 | h2 <;> rcases Int.lt_or_le (absS a1) (absS a2) with h3 | h3
  · have e : widestS a0 a1 a2 = 2 := by unfold widestS; rw [if_pos (by omega), if_pos (by omega)]
    rw [e]
    exact rvwidest_5 a0 a1 a2 w h1 h2 h3
  · have e : widestS a0 a1 a2 = 1 := by unfold widestS; rw [if_pos (by omega), if_neg (by omega)]
    rw [e]
    exact rvwidest_4 a0 a1 a2 w h1 h2 h3
  · exfalso; omega
  · have e : widestS a0 a1 a2 = 1 := by unfold widestS; rw [if_pos (by omega), if_neg (by omega)]
    rw [e]
    exact rvwidest_3 a0 a1 a2 w h1 h2 h3
  · have e : widestS a0 a1 a2 = 2 := by unfold widestS; rw [if_neg (by omega), if_pos (by omega)]
    rw [e]
    exact rvwidest_2 a0 a1 a2 w h1 h2 h3
  · exfalso; omega
  · have e : widestS a0 a1 a2 = 0 := by unfold widestS; rw [if_neg (by omega), if_neg (by omega)]
    rw [e]
    exact rvwidest_1 a0 a1 a2 w h1 h2 h3
  · have e : widestS a0 a1 a2 = 0 := by unfold widestS; rw [if_neg (by omega), if_neg (by omega)]
    rw [e]
    exact rvwidest_0 a0 a1 a2 w h1 h2 h3

end Go.Proofs.Ytaikocplcblnkaa
