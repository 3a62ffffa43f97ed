/- How light is shown, by the program and by the reference, and the laws on it. No condition. -/
import Derived.Test.YtaikocplcblnkaaHue
import Derived.Test.YtaikocplcblnkaaTail
import Derived.Test.YtaikocplcblnkaaArr
set_option linter.unusedVariables false
namespace Go.Proofs.Ytaikocplcblnkaa
open Go.RowKit

theorem show_any (a0 a1 a2 : Int) (w : World) :
    Calls Try.prog 74 #[.agg #[.int .i64 a0, .int .i64 a1, .int .i64 a2]] w
      fun e w' => e = .returned (.agg #[.int .u8 (shadeS (toneS a0)), .int .u8 (shadeS (toneS a1)), .int .u8 (shadeS (toneS a2))]) ∧ Below w.heap.size w w' := by
  go_enter Try.func74, Try.ntmps74
  go_wp2
  refine wp_world (fun W => W.heap[w.heap.size]? = some (.cells #[.int .i64 a0, .int .i64 a1, .int .i64 a2] 91 (0, 0)) ∧ W.heap[w.heap.size + 1]? = some (.cells #[.int .u8 0, .int .u8 0, .int .u8 0] 88 (0, 0)) ∧ w.heap.size + 1 < W.heap.size ∧ Below w.heap.size w W) ⟨blk_old _ (heap_new _ _ _ (by simp)), heap_new _ _ _ (by simp), by simp, by go_grown⟩ ?_
  rintro W ⟨hA0, hR, hz, hb⟩
  have c0_0 := blk_cls (i := 0) (v := .int .i64 a0) hA0 rfl
  have c0_1 := blk_cls (i := 1) (v := .int .i64 a1) hA0 rfl
  have c0_2 := blk_cls (i := 2) (v := .int .i64 a2) hA0 rfl
  refine wp_region_cls_tail 13 (by kernel_rfl) (by kernel_rfl) ?_
  simp only [List.take_succ_cons, List.take_zero, List.drop_succ_cons, List.drop_zero]
  repeat (go_big_quiet_step ((first | (go_at_call 77; exact Cls.calls_same (tone_any _ _)) | (go_at_call 79; exact Cls.calls_same (shade_any _ _)))))
  refine wpQuiet_nil ?_
  rintro ⟨W1, hb1⟩
  replace hR := heap_below hb1 hR
  replace hb := below_then hb1 hb
  dsimp only
  clear hb1 hz c0_0 c0_1 c0_2 hA0
  have r0 := blk_cell (i := 0) (v := .int .u8 0) hR rfl
  have f0 := blk_free (i := 0) hR
  have r1 := blk_cell (i := 1) (v := .int .u8 0) hR rfl
  have f1 := blk_free (i := 1) hR
  have r2 := blk_cell (i := 2) (v := .int .u8 0) hR rfl
  have f2 := blk_free (i := 2) hR
  go_wp2
  refine bodyPost_ret (v := .agg #[.int .u8 (shadeS (toneS a0)), .int .u8 (shadeS (toneS a1)), .int .u8 (shadeS (toneS a2))]) (by simp [results, Try.results74, go_sem, r0, r1, r2]) rfl ⟨rfl, ?_⟩
  exact (((hb.setCell (by simp; try omega) _).setCell (by simp; try omega) _).setCell (by simp; try omega) _)

theorem rshow_any (a0 a1 a2 : Int) (w : World) :
    Calls Try.prog 76 #[.agg #[.int .i64 a0, .int .i64 a1, .int .i64 a2]] w
      fun e w' => e = .returned (.agg #[.int .u8 (shadeS (toneS a0)), .int .u8 (shadeS (toneS a1)), .int .u8 (shadeS (toneS a2))]) ∧ Below w.heap.size w w' := by
  go_enter Try.func76, Try.ntmps76
  go_wp2
  refine wp_world (fun W => W.heap[w.heap.size]? = some (.cells #[.int .i64 a0, .int .i64 a1, .int .i64 a2] 87 (0, 0)) ∧ W.heap[w.heap.size + 1]? = some (.cells #[.int .u8 0, .int .u8 0, .int .u8 0] 88 (0, 0)) ∧ W.heap[w.heap.size + 1 + 1]? = some (.cells #[.int .u8 0, .int .u8 0, .int .u8 0] 88 (0, 0)) ∧ w.heap.size + 1 + 1 < W.heap.size ∧ Below w.heap.size w W) ⟨blk_old _ (blk_old _ (heap_new _ _ _ (by simp))), blk_old _ (heap_new _ _ _ (by simp)), heap_new _ _ _ (by simp), by simp, by go_grown⟩ ?_
  rintro W ⟨hA0, hR, hO, hz, hb⟩
  refine wp_loop_rounds 4 ?_
  rw [rounds_succ]
  have c0_0 := blk_cell (i := 0) (v := .int .i64 a0) hA0 rfl
  have f := blk_free (i := 0) hO
  have c := blk_cell (i := 0) (v := .int .u8 0) hO rfl
  go_wp2_with (first | (go_at_call 78; refine (rtone_any _ _).mono ?_; rintro e w' ⟨rfl, rfl⟩) | (go_at_call 80; refine (rshade_any _ _).mono ?_; rintro e w' ⟨rfl, rfl⟩))
  clear f c c0_0
  refine wp_rounds_world (fun W => W.heap[w.heap.size]? = some (.cells #[.int .i64 a0, .int .i64 a1, .int .i64 a2] 87 (0, 0)) ∧ W.heap[w.heap.size + 1]? = some (.cells #[.int .u8 0, .int .u8 0, .int .u8 0] 88 (0, 0)) ∧ W.heap[w.heap.size + 1 + 1]? = some (.cells #[.int .u8 (shadeS (toneS a0)), .int .u8 0, .int .u8 0] 88 (0, 0)) ∧ w.heap.size + 1 + 1 < W.heap.size ∧ Below w.heap.size w W) ⟨blk_other _ hA0 (by simp; try omega), blk_other _ hR (by simp), (blk_set _ hO), by simpa using hz, hb.setCell (by simp; try omega) _⟩ ?_
  clear hA0 hR hO hz hb W
  rintro W ⟨hA0, hR, hO, hz, hb⟩
  rw [rounds_succ]
  have c0_1 := blk_cell (i := 1) (v := .int .i64 a1) hA0 rfl
  have f := blk_free (i := 1) hO
  have c := blk_cell (i := 1) (v := .int .u8 0) hO rfl
  go_wp2_with (first | (go_at_call 78; refine (rtone_any _ _).mono ?_; rintro e w' ⟨rfl, rfl⟩) | (go_at_call 80; refine (rshade_any _ _).mono ?_; rintro e w' ⟨rfl, rfl⟩))
  clear f c c0_1
  refine wp_rounds_world (fun W => W.heap[w.heap.size]? = some (.cells #[.int .i64 a0, .int .i64 a1, .int .i64 a2] 87 (0, 0)) ∧ W.heap[w.heap.size + 1]? = some (.cells #[.int .u8 0, .int .u8 0, .int .u8 0] 88 (0, 0)) ∧ W.heap[w.heap.size + 1 + 1]? = some (.cells #[.int .u8 (shadeS (toneS a0)), .int .u8 (shadeS (toneS a1)), .int .u8 0] 88 (0, 0)) ∧ w.heap.size + 1 + 1 < W.heap.size ∧ Below w.heap.size w W) ⟨blk_other _ hA0 (by simp; try omega), blk_other _ hR (by simp), (blk_set _ hO), by simpa using hz, hb.setCell (by simp; try omega) _⟩ ?_
  clear hA0 hR hO hz hb W
  rintro W ⟨hA0, hR, hO, hz, hb⟩
  rw [rounds_succ]
  have c0_2 := blk_cell (i := 2) (v := .int .i64 a2) hA0 rfl
  have f := blk_free (i := 2) hO
  have c := blk_cell (i := 2) (v := .int .u8 0) hO rfl
  go_wp2_with (first | (go_at_call 78; refine (rtone_any _ _).mono ?_; rintro e w' ⟨rfl, rfl⟩) | (go_at_call 80; refine (rshade_any _ _).mono ?_; rintro e w' ⟨rfl, rfl⟩))
  clear f c c0_2
  refine wp_rounds_world (fun W => W.heap[w.heap.size]? = some (.cells #[.int .i64 a0, .int .i64 a1, .int .i64 a2] 87 (0, 0)) ∧ W.heap[w.heap.size + 1]? = some (.cells #[.int .u8 0, .int .u8 0, .int .u8 0] 88 (0, 0)) ∧ W.heap[w.heap.size + 1 + 1]? = some (.cells #[.int .u8 (shadeS (toneS a0)), .int .u8 (shadeS (toneS a1)), .int .u8 (shadeS (toneS a2))] 88 (0, 0)) ∧ w.heap.size + 1 + 1 < W.heap.size ∧ Below w.heap.size w W) ⟨blk_other _ hA0 (by simp; try omega), blk_other _ hR (by simp), (blk_set _ hO), by simpa using hz, hb.setCell (by simp; try omega) _⟩ ?_
  clear hA0 hR hO hz hb W
  rintro W ⟨hA0, hR, hO, hz, hb⟩
  rw [rounds_succ]
  have o0 := blk_cell (i := 0) (v := .int .u8 (shadeS (toneS a0))) hO rfl
  have r0 := blk_cell (i := 0) (v := .int .u8 0) hR rfl
  have f0 := blk_free (i := 0) hR
  have o1 := blk_cell (i := 1) (v := .int .u8 (shadeS (toneS a1))) hO rfl
  have r1 := blk_cell (i := 1) (v := .int .u8 0) hR rfl
  have f1 := blk_free (i := 1) hR
  have o2 := blk_cell (i := 2) (v := .int .u8 (shadeS (toneS a2))) hO rfl
  have r2 := blk_cell (i := 2) (v := .int .u8 0) hR rfl
  have f2 := blk_free (i := 2) hR
  go_wp2
  refine bodyPost_ret (v := .agg #[.int .u8 (shadeS (toneS a0)), .int .u8 (shadeS (toneS a1)), .int .u8 (shadeS (toneS a2))]) (by simp [results, Try.results76, go_sem, r0, r1, r2]) rfl ⟨rfl, ?_⟩
  exact ((hb.setCell (by simp; try omega) _).setCell (by simp; try omega) _).setCell (by simp; try omega) _

theorem to05_any (a0 a1 a2 : Int) (w : World) :
    Calls Try.prog 75 #[.agg #[.int .i64 a0, .int .i64 a1, .int .i64 a2]] w
      fun e w' => e = .returned (.agg #[.int .i64 (a0), .int .i64 (a1), .int .i64 (a2)]) ∧ Below w.heap.size w w' := by
  go_enter Try.func75, Try.ntmps75
  go_wp2
  go_returns
  exact ⟨rfl, by go_grown⟩

theorem awake05_any (w : World) : Calls Try.prog 73 #[] w fun e w' => e = .returned (.bool true) ∧ Below w.heap.size w w' := by
  have k1 := tone_one
  have k2 := shade_one
  have k3 := show_zero
  have he := fun (a b c a' b' c' : Int) (w : World) => run_eql_arr3 (P := Try.prog) (T := 88) Try.underlying88 Try.underlying5 (by kernel_rfl) (by kernel_rfl) a b c a' b' c' w
  go_enter Try.func73, Try.ntmps73
  go_wp2_with (first | (go_at_call 77; refine (tone_any _ _).mono ?_; rintro e w' ⟨rfl, rfl⟩) | (go_at_call 79; refine (shade_any _ _).mono ?_; rintro e w' ⟨rfl, rfl⟩) | (go_at_call 74; refine (show_any _ _ _ _).mono ?_; rintro e w1 ⟨rfl, hb⟩))
  go_ret
  exact ⟨rfl, by assumption⟩
set_option maxRecDepth 100000 in
theorem walk_HueShows (a0 a1 a2 y : Int) (w : World) (_ : (Lit.int .i64 a0).wf = true) (_ : (Lit.int .i64 a1).wf = true) (_ : (Lit.int .i64 a2).wf = true) (_ : (Lit.int .i64 y).wf = true) :
    Calls Try.prog 13 #[.agg #[.int .i64 a0, .int .i64 a1, .int .i64 a2], .int .i64 y] w fun e w' => e = .returned (.bool true) ∧ Below w.heap.size w w' := by
  have he := fun (a b c a' b' c' : Int) (w : World) => run_eql_arr3 (P := Try.prog) (T := 88) Try.underlying88 Try.underlying5 (by kernel_rfl) (by kernel_rfl) a b c a' b' c' w
  go_enter Try.func13, Try.ntmps13
  go_wp2
  refine wp_world (fun W => W.heap[w.heap.size]? = some (.cells #[.int .i64 a0, .int .i64 a1, .int .i64 a2] 87 (0, 0)) ∧ Below w.heap.size w W) ⟨heap_new _ _ _ (by simp), by go_grown⟩ ?_
  rintro W ⟨hA, hb⟩
  have c0 := blk_cls (i := 0) (v := .int .i64 a0) hA rfl
  have c1 := blk_cls (i := 1) (v := .int .i64 a1) hA rfl
  have c2 := blk_cls (i := 2) (v := .int .i64 a2) hA rfl
  clear hA
  refine wp_region_cls (by kernel_rfl) (by kernel_rfl) ?_
  repeat (go_big_quiet_step ((first
    | (go_at_call 73; exact Cls.calls (awake05_any _))
    | (go_at_call 75; exact Cls.calls (to05_any _ _ _ _))
    | (go_at_call 74; exact Cls.calls (show_any _ _ _ _))
    | (go_at_call 76; exact Cls.calls (rshow_any _ _ _ _))
    | (go_at_call 77; exact Cls.calls_same (tone_any _ _))
    | (go_at_call 78; exact Cls.calls_same (rtone_any _ _))
    | (go_at_call 79; exact Cls.calls_same (shade_any _ _))
    | (go_at_call 80; exact Cls.calls_same (rshade_any _ _)))))
  refine wpQuiet_nil ?_
  rintro ⟨W3, hw3⟩
  go_wp2
  go_ret
  exact ⟨rfl, below_then hw3 hb⟩
theorem hueRises_any (a b x y : Int) (w : World) (hx : x ≤ y) (hm : (a ≤ b ∧ x = a ∧ y = b) ∨ (b < a ∧ x = b ∧ y = a)) :
    Calls Try.prog 14 #[.int .i64 a, .int .i64 b] w fun e w' => e = .returned (.bool true) ∧ Below w.heap.size w w' := by
  have k1 := toneS_mono hx
  have k2 := (toneS_bd x).1
  have k3 := (toneS_bd y).2
  have k4 := shadeS_mono k1
  rcases hm with ⟨h, rfl, rfl⟩ | ⟨h, rfl, rfl⟩
  all_goals
    go_enter Try.func14, Try.ntmps14
    go_wp2_with (first | (go_at_call 73; refine (awake05_any _).mono ?_; rintro e w1 ⟨rfl, hb⟩) | (go_at_call 77; refine (tone_any _ _).mono ?_; rintro e w' ⟨rfl, rfl⟩) | (go_at_call 79; refine (shade_any _ _).mono ?_; rintro e w' ⟨rfl, rfl⟩) | (go_at_call 64; refine (funit_any _ _).mono ?_; rintro e w' ⟨rfl, rfl⟩) | (go_at_call 81; refine (runit_any _ _).mono ?_; rintro e w' ⟨rfl, rfl⟩))
    all_goals
      go_ret
      exact ⟨rfl, by assumption⟩
theorem walk_HueRises (a b : Int) (w : World) (_ : (Lit.int .i64 a).wf = true) (_ : (Lit.int .i64 b).wf = true) :
    Calls Try.prog 14 #[.int .i64 a, .int .i64 b] w fun e w' => e = .returned (.bool true) ∧ Below w.heap.size w w' := by
  rcases Int.lt_or_le b a with h | h
  · exact hueRises_any a b b a w (by omega) (.inr ⟨h, rfl, rfl⟩)
  · exact hueRises_any a b a b w h (.inl ⟨h, rfl, rfl⟩)

end Go.Proofs.Ytaikocplcblnkaa
