/- What the laws of layer 2 call beside. No condition. -/
import Derived.Test.YtaikocplcblnkaaVec
import Derived.Test.YtaikocplcblnkaaFresh
import Derived.Test.YtaikocplcblnkaaArr
import Derived.Deep.DeepCutAuto
import Derived.BigRegion
set_option linter.unusedVariables false
namespace Go.Proofs.Ytaikocplcblnkaa
open Go.RowKit

theorem to02_any (a0 a1 a2 : Int) (w : World) :
    Calls Try.prog 15 #[.agg #[.int .i64 a0, .int .i64 a1, .int .i64 a2]] w
      fun e w' => e = .returned (.agg #[.int .i64 (a0), .int .i64 (a1), .int .i64 (a2)]) ∧ Below w.heap.size w w' := by
  go_enter Try.func15, Try.ntmps15
  go_wp2
  go_returns
  exact ⟨rfl, by go_grown⟩

theorem from02_any (a0 a1 a2 : Int) (w : World) :
    Calls Try.prog 17 #[.agg #[.int .i64 a0, .int .i64 a1, .int .i64 a2]] w
      fun e w' => e = .returned (.agg #[.int .i64 (a0), .int .i64 (a1), .int .i64 (a2)]) ∧ Below w.heap.size w w' := by
  go_enter Try.func17, Try.ntmps17
  go_wp2
  go_returns
  exact ⟨rfl, by go_grown⟩

theorem vnew_any (a0 a1 a2 : Int) (w : World) :
    Calls Try.prog 27 #[.int .i64 a0, .int .i64 a1, .int .i64 a2] w
      fun e w' => e = .returned (.agg #[.int .i64 (a0), .int .i64 (a1), .int .i64 (a2)]) ∧ Below w.heap.size w w' := by
  go_enter Try.func27, Try.ntmps27
  go_wp2
  go_returns
  exact ⟨rfl, by go_grown⟩

def vatS (a0 a1 a2 k : Int) : Int := if k = 0 then a0 else if k = 1 then a1 else a2
theorem vat_any (a0 a1 a2 k : Int) (w : World) :
    Calls Try.prog 29 #[.agg #[.int .i64 a0, .int .i64 a1, .int .i64 a2], .int .i64 k] w fun e w' => e = .returned (.int .i64 (vatS a0 a1 a2 k)) ∧ Below w.heap.size w w' := by
  by_cases h0 : k = 0
  · subst h0
    go_enter Try.func29, Try.ntmps29
    go_wp2
    go_ret
    exact ⟨rfl, by go_grown⟩
  · by_cases h1 : k = 1
    · subst h1
      go_enter Try.func29, Try.ntmps29
      go_wp2
      go_ret
      exact ⟨rfl, by go_grown⟩
    · have b0 : (k == 0) = false := by simpa using h0
      have b1 : (k == 1) = false := by simpa using h1
      have HV : Hid (vatS a0 a1 a2 k = a2) := by unfold vatS; rw [if_neg h0, if_neg h1]; exact Lib.hid rfl
      clear h0 h1
      go_enter Try.func29, Try.ntmps29
      go_wp2
      go_ret
      exact ⟨by rw [HV.out]; rfl, by go_grown⟩
def widestS (a0 a1 a2 : Int) : Int := if absS a0 < absS a1 then (if absS a1 < absS a2 then 2 else 1) else (if absS a0 < absS a2 then 2 else 0)

theorem vwidest_any (a0 a1 a2 : Int) (w : World) :
    Calls Try.prog 57 #[.agg #[.int .i64 a0, .int .i64 a1, .int .i64 a2]] w fun e w' => e = .returned (.int .i64 (widestS a0 a1 a2)) ∧ Below w.heap.size w w' := by
  have e0 : vatS a0 a1 a2 0 = a0 := rfl
  have e1 : vatS a0 a1 a2 1 = a1 := rfl
  have e2 : vatS a0 a1 a2 2 = a2 := rfl
  by_cases h1 : absS a0 < absS a1
  · by_cases h2 : absS a1 < absS a2
    · have HV : Hid (widestS a0 a1 a2 = 2) := by unfold widestS; rw [if_pos h1, if_pos h2]; exact Lib.hid rfl
      go_enter Try.func57, Try.ntmps57
      go_wp2
      refine wp_world (fun W => W.heap[w.heap.size]? = some (.cells #[.int .i64 a0, .int .i64 a1, .int .i64 a2] 26 (0, 0)) ∧ Below w.heap.size w W) ⟨heap_new _ _ _ (by simp), by go_grown⟩ ?_
      rintro W ⟨hA, hb⟩
      refine wp_loop_rounds 3 ?_
      rw [rounds_succ]
      go_wp2
      have c0 := blk_cls (i := 0) (v := .int .i64 a0) hA rfl
      have c1 := blk_cls (i := 1) (v := .int .i64 a1) hA rfl
      have c2 := blk_cls (i := 2) (v := .int .i64 a2) hA rfl
      refine wp_region_cls (by kernel_rfl) (by kernel_rfl) ?_
      repeat (go_big_quiet_step ((first | (go_at_call 29; exact Cls.calls (vat_any _ _ _ _ _)) | (go_at_call 98; exact Cls.calls_same (fabs_any _ _)))))
      refine wpQuiet_nil ?_
      rintro ⟨W1, hb1⟩
      replace hA := heap_below hb1 hA
      replace hb := below_then hb1 hb
      dsimp only
      clear hb1 c0 c1 c2
      go_wp2
      refine wp_rounds_world (fun W => W.heap[w.heap.size]? = some (.cells #[.int .i64 a0, .int .i64 a1, .int .i64 a2] 26 (0, 0)) ∧ Below w.heap.size w W) ⟨hA, hb⟩ ?_
      clear hA hb
      rintro W ⟨hA, hb⟩
      rw [rounds_succ]
      go_wp2
      have c0 := blk_cls (i := 0) (v := .int .i64 a0) hA rfl
      have c1 := blk_cls (i := 1) (v := .int .i64 a1) hA rfl
      have c2 := blk_cls (i := 2) (v := .int .i64 a2) hA rfl
      refine wp_region_cls (by kernel_rfl) (by kernel_rfl) ?_
      repeat (go_big_quiet_step ((first | (go_at_call 29; exact Cls.calls (vat_any _ _ _ _ _)) | (go_at_call 98; exact Cls.calls_same (fabs_any _ _)))))
      refine wpQuiet_nil ?_
      rintro ⟨W1, hb1⟩
      replace hA := heap_below hb1 hA
      replace hb := below_then hb1 hb
      dsimp only
      clear hb1 c0 c1 c2
      go_wp2
      refine wp_rounds_world (fun W => W.heap[w.heap.size]? = some (.cells #[.int .i64 a0, .int .i64 a1, .int .i64 a2] 26 (0, 0)) ∧ Below w.heap.size w W) ⟨hA, hb⟩ ?_
      clear hA hb
      rintro W ⟨hA, hb⟩
      rw [rounds_succ]
      go_wp2
      go_ret
      exact ⟨by rw [HV.out]; rfl, hb⟩
    · have HV : Hid (widestS a0 a1 a2 = 1) := by unfold widestS; rw [if_pos h1, if_neg h2]; exact Lib.hid rfl
      go_enter Try.func57, Try.ntmps57
      go_wp2
      refine wp_world (fun W => W.heap[w.heap.size]? = some (.cells #[.int .i64 a0, .int .i64 a1, .int .i64 a2] 26 (0, 0)) ∧ Below w.heap.size w W) ⟨heap_new _ _ _ (by simp), by go_grown⟩ ?_
      rintro W ⟨hA, hb⟩
      refine wp_loop_rounds 3 ?_
      rw [rounds_succ]
      go_wp2
      have c0 := blk_cls (i := 0) (v := .int .i64 a0) hA rfl
      have c1 := blk_cls (i := 1) (v := .int .i64 a1) hA rfl
      have c2 := blk_cls (i := 2) (v := .int .i64 a2) hA rfl
      refine wp_region_cls (by kernel_rfl) (by kernel_rfl) ?_
      repeat (go_big_quiet_step ((first | (go_at_call 29; exact Cls.calls (vat_any _ _ _ _ _)) | (go_at_call 98; exact Cls.calls_same (fabs_any _ _)))))
      refine wpQuiet_nil ?_
      rintro ⟨W1, hb1⟩
      replace hA := heap_below hb1 hA
      replace hb := below_then hb1 hb
      dsimp only
      clear hb1 c0 c1 c2
      go_wp2
      refine wp_rounds_world (fun W => W.heap[w.heap.size]? = some (.cells #[.int .i64 a0, .int .i64 a1, .int .i64 a2] 26 (0, 0)) ∧ Below w.heap.size w W) ⟨hA, hb⟩ ?_
      clear hA hb
      rintro W ⟨hA, hb⟩
      rw [rounds_succ]
      go_wp2
      have c0 := blk_cls (i := 0) (v := .int .i64 a0) hA rfl
      have c1 := blk_cls (i := 1) (v := .int .i64 a1) hA rfl
      have c2 := blk_cls (i := 2) (v := .int .i64 a2) hA rfl
      refine wp_region_cls (by kernel_rfl) (by kernel_rfl) ?_
      repeat (go_big_quiet_step ((first | (go_at_call 29; exact Cls.calls (vat_any _ _ _ _ _)) | (go_at_call 98; exact Cls.calls_same (fabs_any _ _)))))
      refine wpQuiet_nil ?_
      rintro ⟨W1, hb1⟩
      replace hA := heap_below hb1 hA
      replace hb := below_then hb1 hb
      dsimp only
      clear hb1 c0 c1 c2
      go_wp2
      refine wp_rounds_world (fun W => W.heap[w.heap.size]? = some (.cells #[.int .i64 a0, .int .i64 a1, .int .i64 a2] 26 (0, 0)) ∧ Below w.heap.size w W) ⟨hA, hb⟩ ?_
      clear hA hb
      rintro W ⟨hA, hb⟩
      rw [rounds_succ]
      go_wp2
      go_ret
      exact ⟨by rw [HV.out]; rfl, hb⟩
  · by_cases h2 : absS a0 < absS a2
    · have HV : Hid (widestS a0 a1 a2 = 2) := by unfold widestS; rw [if_neg h1, if_pos h2]; exact Lib.hid rfl
      go_enter Try.func57, Try.ntmps57
      go_wp2
      refine wp_world (fun W => W.heap[w.heap.size]? = some (.cells #[.int .i64 a0, .int .i64 a1, .int .i64 a2] 26 (0, 0)) ∧ Below w.heap.size w W) ⟨heap_new _ _ _ (by simp), by go_grown⟩ ?_
      rintro W ⟨hA, hb⟩
      refine wp_loop_rounds 3 ?_
      rw [rounds_succ]
      go_wp2
      have c0 := blk_cls (i := 0) (v := .int .i64 a0) hA rfl
      have c1 := blk_cls (i := 1) (v := .int .i64 a1) hA rfl
      have c2 := blk_cls (i := 2) (v := .int .i64 a2) hA rfl
      refine wp_region_cls (by kernel_rfl) (by kernel_rfl) ?_
      repeat (go_big_quiet_step ((first | (go_at_call 29; exact Cls.calls (vat_any _ _ _ _ _)) | (go_at_call 98; exact Cls.calls_same (fabs_any _ _)))))
      refine wpQuiet_nil ?_
      rintro ⟨W1, hb1⟩
      replace hA := heap_below hb1 hA
      replace hb := below_then hb1 hb
      dsimp only
      clear hb1 c0 c1 c2
      go_wp2
      refine wp_rounds_world (fun W => W.heap[w.heap.size]? = some (.cells #[.int .i64 a0, .int .i64 a1, .int .i64 a2] 26 (0, 0)) ∧ Below w.heap.size w W) ⟨hA, hb⟩ ?_
      clear hA hb
      rintro W ⟨hA, hb⟩
      rw [rounds_succ]
      go_wp2
      have c0 := blk_cls (i := 0) (v := .int .i64 a0) hA rfl
      have c1 := blk_cls (i := 1) (v := .int .i64 a1) hA rfl
      have c2 := blk_cls (i := 2) (v := .int .i64 a2) hA rfl
      refine wp_region_cls (by kernel_rfl) (by kernel_rfl) ?_
      repeat (go_big_quiet_step ((first | (go_at_call 29; exact Cls.calls (vat_any _ _ _ _ _)) | (go_at_call 98; exact Cls.calls_same (fabs_any _ _)))))
      refine wpQuiet_nil ?_
      rintro ⟨W1, hb1⟩
      replace hA := heap_below hb1 hA
      replace hb := below_then hb1 hb
      dsimp only
      clear hb1 c0 c1 c2
      go_wp2
      refine wp_rounds_world (fun W => W.heap[w.heap.size]? = some (.cells #[.int .i64 a0, .int .i64 a1, .int .i64 a2] 26 (0, 0)) ∧ Below w.heap.size w W) ⟨hA, hb⟩ ?_
      clear hA hb
      rintro W ⟨hA, hb⟩
      rw [rounds_succ]
      go_wp2
      go_ret
      exact ⟨by rw [HV.out]; rfl, hb⟩
    · have HV : Hid (widestS a0 a1 a2 = 0) := by unfold widestS; rw [if_neg h1, if_neg h2]; exact Lib.hid rfl
      go_enter Try.func57, Try.ntmps57
      go_wp2
      refine wp_world (fun W => W.heap[w.heap.size]? = some (.cells #[.int .i64 a0, .int .i64 a1, .int .i64 a2] 26 (0, 0)) ∧ Below w.heap.size w W) ⟨heap_new _ _ _ (by simp), by go_grown⟩ ?_
      rintro W ⟨hA, hb⟩
      refine wp_loop_rounds 3 ?_
      rw [rounds_succ]
      go_wp2
      have c0 := blk_cls (i := 0) (v := .int .i64 a0) hA rfl
      have c1 := blk_cls (i := 1) (v := .int .i64 a1) hA rfl
      have c2 := blk_cls (i := 2) (v := .int .i64 a2) hA rfl
      refine wp_region_cls (by kernel_rfl) (by kernel_rfl) ?_
      repeat (go_big_quiet_step ((first | (go_at_call 29; exact Cls.calls (vat_any _ _ _ _ _)) | (go_at_call 98; exact Cls.calls_same (fabs_any _ _)))))
      refine wpQuiet_nil ?_
      rintro ⟨W1, hb1⟩
      replace hA := heap_below hb1 hA
      replace hb := below_then hb1 hb
      dsimp only
      clear hb1 c0 c1 c2
      go_wp2
      refine wp_rounds_world (fun W => W.heap[w.heap.size]? = some (.cells #[.int .i64 a0, .int .i64 a1, .int .i64 a2] 26 (0, 0)) ∧ Below w.heap.size w W) ⟨hA, hb⟩ ?_
      clear hA hb
      rintro W ⟨hA, hb⟩
      rw [rounds_succ]
      go_wp2
      have c0 := blk_cls (i := 0) (v := .int .i64 a0) hA rfl
      have c1 := blk_cls (i := 1) (v := .int .i64 a1) hA rfl
      have c2 := blk_cls (i := 2) (v := .int .i64 a2) hA rfl
      refine wp_region_cls (by kernel_rfl) (by kernel_rfl) ?_
      repeat (go_big_quiet_step ((first | (go_at_call 29; exact Cls.calls (vat_any _ _ _ _ _)) | (go_at_call 98; exact Cls.calls_same (fabs_any _ _)))))
      refine wpQuiet_nil ?_
      rintro ⟨W1, hb1⟩
      replace hA := heap_below hb1 hA
      replace hb := below_then hb1 hb
      dsimp only
      clear hb1 c0 c1 c2
      go_wp2
      refine wp_rounds_world (fun W => W.heap[w.heap.size]? = some (.cells #[.int .i64 a0, .int .i64 a1, .int .i64 a2] 26 (0, 0)) ∧ Below w.heap.size w W) ⟨hA, hb⟩ ?_
      clear hA hb
      rintro W ⟨hA, hb⟩
      rw [rounds_succ]
      go_wp2
      go_ret
      exact ⟨by rw [HV.out]; rfl, hb⟩
theorem awake02_any (w : World) : Calls Try.prog 16 #[] w fun e w' => e = .returned (.bool true) ∧ Below w.heap.size w w' := by
  have k0 : subS (mulS 0 0) (mulS 0 65536) = 0 := by decide +kernel
  have k1 : subS (mulS 0 0) (mulS 65536 0) = 0 := by decide +kernel
  have k2 : subS (mulS 65536 65536) (mulS 0 0) = 65536 := by decide +kernel
  have k3 : widestS 1 (-2) 2 = 1 := by decide +kernel
  go_enter Try.func16, Try.ntmps16
  go_wp2_with fail
  refine (vcross_any _ _ _ _ _ _ _).mono ?_
  rintro e w1 ⟨rfl, hb1⟩
  go_wp2_with fail
  refine (vwidest_any _ _ _ _).mono ?_
  rintro e w2 ⟨rfl, hb2⟩
  go_wp2
  go_ret
  exact ⟨rfl, below_then hb2 hb1⟩

set_option maxRecDepth 100000 in
set_option maxHeartbeats 1000000 in
theorem walk_VecSums (a0 a1 a2 b0 b1 b2 s t : Int) (w : World) (_ : (Lit.int .i64 a0).wf = true) (_ : (Lit.int .i64 a1).wf = true) (_ : (Lit.int .i64 a2).wf = true) (_ : (Lit.int .i64 b0).wf = true) (_ : (Lit.int .i64 b1).wf = true) (_ : (Lit.int .i64 b2).wf = true) (_ : (Lit.int .i64 s).wf = true) (_ : (Lit.int .i64 t).wf = true) :
    Calls Try.prog 3 #[.agg #[.int .i64 a0, .int .i64 a1, .int .i64 a2], .agg #[.int .i64 b0, .int .i64 b1, .int .i64 b2], .int .i64 s, .int .i64 t] w
      fun e w' => e = .returned (.bool true) ∧ Below w.heap.size w w' := by
  go_enter Try.func3, Try.ntmps3
  go_upto_region 1 with fail
  refine wp_world (fun W => W.heap[w.heap.size]? = some (.cells #[.int .i64 a0, .int .i64 a1, .int .i64 a2] 23 (0, 0)) ∧ W.heap[w.heap.size + 1]? = some (.cells #[.int .i64 b0, .int .i64 b1, .int .i64 b2] 23 (0, 0)) ∧ w.heap.size + 1 < W.heap.size ∧ Below w.heap.size w W) ⟨blk_old _ (heap_new _ _ _ (by simp)), heap_new _ _ _ (by simp), by simp, by go_grown⟩ ?_
  rintro W ⟨hA, hB, hz, hb⟩
  have c0 := blk_cls (i := 0) (v := .int .i64 a0) hA rfl
  have c1 := blk_cls (i := 1) (v := .int .i64 a1) hA rfl
  have c2 := blk_cls (i := 2) (v := .int .i64 a2) hA rfl
  have d0 := blk_cls (i := 0) (v := .int .i64 b0) hB rfl
  have d1 := blk_cls (i := 1) (v := .int .i64 b1) hB rfl
  have d2 := blk_cls (i := 2) (v := .int .i64 b2) hB rfl
  refine wp_region_fresh 6 [(4, 9, .cells #[.int .i64 0, .int .i64 0, .int .i64 0] 26 (0, 0)), (5, 10, .cells #[.int .i64 0, .int .i64 0, .int .i64 0] 26 (0, 0))]
    [.agg #[.int .i64 a0, .int .i64 a1, .int .i64 a2], .agg #[.int .i64 a0, .int .i64 a1, .int .i64 a2], .agg #[.int .i64 b0, .int .i64 b1, .int .i64 b2], .agg #[.int .i64 b0, .int .i64 b1, .int .i64 b2]] (by kernel_rfl) (by kernel_rfl) ?ok ?walk (laid_all (by simp) (by simp; constructor <;> kernel_rfl))
  case ok =>
    refine ⟨?_, ?_, ?_, ?_, other_of (by kernel_rfl)⟩
    · intro e he
      simp only [List.mem_cons, List.not_mem_nil, or_false] at he
      rcases he with rfl | rfl
      · exact ⟨_, rfl, rfl, rfl, fun a w => by kernel_rfl⟩
      · exact ⟨_, rfl, rfl, rfl, fun a w => by kernel_rfl⟩
    all_goals simp
  case walk =>
    simp only [List.take_succ_cons, List.take_zero, List.drop_succ_cons, List.drop_zero]
    refine wpS_op _ (by rfl) rfl (by rfl) (fun s => by simp [c0, c1, c2, go_sem, strongUpon]) ?_
    refine wpS_op _ (by rfl) rfl (by rfl) (fun s => by simp [go_sem]; exact strong_call (to02_any _ _ _ _)) ?_
    refine wpS_op _ (by rfl) rfl (by rfl) (fun s => by simp [d0, d1, d2, go_sem, strongUpon]) ?_
    refine wpS_op _ (by rfl) rfl (by rfl) (fun s => by simp [go_sem]; exact strong_call (to02_any _ _ _ _)) ?_
    refine wpS_al (by rfl) fun x => ?_
    refine wpS_al (by rfl) fun y => ?_
    refine wpS_nil fun s hs => ?_
    obtain ⟨b, g1, g2, g3, g4⟩ := hs _ (List.Mem.head _)
    obtain ⟨b', k1, k2, k3, k4⟩ := hs _ (List.Mem.tail _ (List.Mem.head _))
    have g5 := g4 _ (List.Mem.tail _ (List.Mem.head _)) (by simp)
    simp [Act.put] at g1 k1 g5
    subst g1 k1
    clear hs g4 k4 c0 c1 c2 d0 d1 d2
    obtain ⟨W1, hb1⟩ := s
    simp only [Act.put, List.setIfInBounds_toArray, List.set_cons_succ, List.set_cons_zero, List.getD_cons_zero, List.getD_cons_succ] at g2 k2 ⊢
    replace hA := heap_below hb1 hA
    replace hB := heap_below hb1 hB
    replace hb := below_then hb1 hb
    have hxA : w.heap.size < x := by omega
    have hyA : w.heap.size < y := by omega
    have hxB : w.heap.size + 1 < x := by omega
    have hyB : w.heap.size + 1 < y := by omega
    clear hb1 hz g3 k3
    have x0 := blk_cell (i := 0) (v := .int .i64 0) g2 rfl
    have x1 := blk_cell (i := 1) (v := .int .i64 0) g2 rfl
    have x2 := blk_cell (i := 2) (v := .int .i64 0) g2 rfl
    have y0 := blk_cell (i := 0) (v := .int .i64 0) k2 rfl
    have y1 := blk_cell (i := 1) (v := .int .i64 0) k2 rfl
    have y2 := blk_cell (i := 2) (v := .int .i64 0) k2 rfl
    have u0 := blk_free (i := 0) g2
    have u1 := blk_free (i := 1) g2
    have u2 := blk_free (i := 2) g2
    have v0 := blk_free (i := 0) k2
    have v1 := blk_free (i := 1) k2
    have v2 := blk_free (i := 2) k2
    have g6 : ¬ x = y := fun h => g5 h.symm
    go_wp2_with fail
    refine wp_world (fun W => W.heap[w.heap.size]? = some (.cells #[.int .i64 a0, .int .i64 a1, .int .i64 a2] 23 (0, 0)) ∧ W.heap[w.heap.size + 1]? = some (.cells #[.int .i64 b0, .int .i64 b1, .int .i64 b2] 23 (0, 0)) ∧ W.heap[x]? = some (.cells #[.int .i64 a0, .int .i64 a1, .int .i64 a2] 26 (0, 0)) ∧ W.heap[y]? = some (.cells #[.int .i64 b0, .int .i64 b1, .int .i64 b2] 26 (0, 0)) ∧ Below w.heap.size w W)
      ⟨blk_other _ (blk_other _ (blk_other _ (blk_other _ (blk_other _ (blk_other _ hA (by simp; omega)) (by simp; omega)) (by simp; omega)) (by simp; omega)) (by simp; omega)) (by simp; omega), blk_other _ (blk_other _ (blk_other _ (blk_other _ (blk_other _ (blk_other _ hB (by simp; omega)) (by simp; omega)) (by simp; omega)) (by simp; omega)) (by simp; omega)) (by simp; omega), blk_other _ (blk_other _ (blk_other _ (blk_set _ (blk_set _ (blk_set _ g2))) (by simp; omega)) (by simp; omega)) (by simp; omega), blk_set _ (blk_set _ (blk_set _ (blk_other _ (blk_other _ (blk_other _ k2 (by simp; omega)) (by simp; omega)) (by simp; omega)))), (((((hb.setCell (by simp; omega) _).setCell (by simp; omega) _).setCell (by simp; omega) _).setCell (by simp; omega) _).setCell (by simp; omega) _).setCell (by simp; omega) _⟩ ?_
    clear hA hB hb g2 k2 x0 x1 x2 y0 y1 y2 u0 u1 u2 v0 v1 v2
    rintro W2 ⟨hA, hB, hX, hY, hb⟩
    have c0 := blk_cls (i := 0) (v := .int .i64 a0) hA rfl
    have c1 := blk_cls (i := 1) (v := .int .i64 a1) hA rfl
    have c2 := blk_cls (i := 2) (v := .int .i64 a2) hA rfl
    have d0 := blk_cls (i := 0) (v := .int .i64 b0) hB rfl
    have d1 := blk_cls (i := 1) (v := .int .i64 b1) hB rfl
    have d2 := blk_cls (i := 2) (v := .int .i64 b2) hB rfl
    have p0 := blk_cls (i := 0) (v := .int .i64 a0) hX rfl
    have p1 := blk_cls (i := 1) (v := .int .i64 a1) hX rfl
    have p2 := blk_cls (i := 2) (v := .int .i64 a2) hX rfl
    have q0 := blk_cls (i := 0) (v := .int .i64 b0) hY rfl
    have q1 := blk_cls (i := 1) (v := .int .i64 b1) hY rfl
    have q2 := blk_cls (i := 2) (v := .int .i64 b2) hY rfl
    clear hA hB hX hY
    have he := fun (a b c a' b' c' : Int) (w : World) => run_eql_arr3 (P := Try.prog) (T := 23) Try.underlying23 Try.underlying2 (by kernel_rfl) (by kernel_rfl) a b c a' b' c' w
    dsimp only [List.append]
    refine wp_region_cls (by kernel_rfl) (by kernel_rfl) ?_
    repeat (go_big_quiet_step ((first | (go_at_call 16; exact Cls.calls (awake02_any _)) | (go_at_call 17; exact Cls.calls (from02_any _ _ _ _)) | (go_at_call 18; exact Cls.calls (vadd_any _ _ _ _ _ _ _)) | (go_at_call 19; exact Cls.calls (rvadd_any _ _ _ _ _ _ _)) | (go_at_call 20; exact Cls.calls (vsub_any _ _ _ _ _ _ _)) | (go_at_call 21; exact Cls.calls (rvsub_any _ _ _ _ _ _ _)) | (go_at_call 22; exact Cls.calls (vneg_any _ _ _ _)) | (go_at_call 23; exact Cls.calls (vscale_any _ _ _ _ _)) | (go_at_call 24; exact Cls.calls (rvscale_any _ _ _ _ _)) | (go_at_call 25; exact Cls.calls (vmix_any _ _ _ _ _ _ _ _)) | (go_at_call 26; exact Cls.calls (rvmix_any _ _ _ _ _ _ _ _)) | (go_at_call 27; exact Cls.calls (vnew_any _ _ _ _)))))
    refine wpQuiet_nil ?_
    rintro ⟨W3, hw3⟩
    go_wp2
    go_ret
    exact ⟨rfl, below_then hw3 hb⟩

end Go.Proofs.Ytaikocplcblnkaa
