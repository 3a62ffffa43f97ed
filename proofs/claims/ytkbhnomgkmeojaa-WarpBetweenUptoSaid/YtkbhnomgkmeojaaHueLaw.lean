/- How light is shown, by the program and by the reference, and the laws on it. No condition. -/
import Derived.Test.YtkbhnomgkmeojaaHue
import Derived.Test.YtkbhnomgkmeojaaTail
import Derived.Test.YtkbhnomgkmeojaaArr
set_option linter.unusedVariables false
namespace Go.Proofs.Ytkbhnomgkmeojaa
open Go.RowKit

theorem show_any (a0 a1 a2 : Int) (w : World) :
    Calls Try.prog 81 #[.agg #[.int .i64 a0, .int .i64 a1, .int .i64 a2]] w
      fun e w' => e = .returned (.agg #[.int .u8 (shadeS (toneS a0)), .int .u8 (shadeS (toneS a1)), .int .u8 (shadeS (toneS a2))]) ∧ Below w.heap.size w w' := by
  go_enter Try.func81, Try.ntmps81
  go_wp2
  refine wp_world (fun W => W.heap[w.heap.size]? = some (.cells #[.int .i64 a0, .int .i64 a1, .int .i64 a2] 28 (0, 0)) ∧ W.heap[w.heap.size + 1]? = some (.cells #[.int .u8 0, .int .u8 0, .int .u8 0] 144 (0, 0)) ∧ w.heap.size + 1 < W.heap.size ∧ Below w.heap.size w W) ⟨blk_old _ (heap_new _ _ _ (by simp)), heap_new _ _ _ (by simp), by simp, by go_grown⟩ ?_
  rintro W ⟨hA0, hR, hz, hb⟩
  have c0_0 := blk_cls (i := 0) (v := .int .i64 a0) hA0 rfl
  have c0_1 := blk_cls (i := 1) (v := .int .i64 a1) hA0 rfl
  have c0_2 := blk_cls (i := 2) (v := .int .i64 a2) hA0 rfl
  refine wp_region_cls_tail 13 (by kernel_rfl) (by kernel_rfl) ?_
  simp only [List.take_succ_cons, List.take_zero, List.drop_succ_cons, List.drop_zero]
  repeat (go_big_quiet_step ((first | (go_at_call 79; exact Cls.calls_same (tone_any _ _)) | (go_at_call 80; exact Cls.calls_same (shade_any _ _)))))
  refine wpQuiet_nil ?_
  rintro ⟨W1, hb1⟩
  replace hR := heap_below hb1 hR
  replace hb := below_then hb1 hb
  dsimp only
  clear hb1 hz c0_0 c0_1 c0_2 hA0
  have r0 := blk_cell (i := 0) (v := .int .u8 0) hR rfl
  have f0 := blk_free (i := 0) hR
  have r1 := blk_cell (i := 1) (v := .int .u8 0) hR rfl
  have f1 := blk_free (i := 1) hR
  have r2 := blk_cell (i := 2) (v := .int .u8 0) hR rfl
  have f2 := blk_free (i := 2) hR
  go_wp2
  refine bodyPost_ret (v := .agg #[.int .u8 (shadeS (toneS a0)), .int .u8 (shadeS (toneS a1)), .int .u8 (shadeS (toneS a2))]) (by simp [results, Try.results81, go_sem, r0, r1, r2]) rfl ⟨rfl, ?_⟩
  exact (((hb.setCell (by simp; try omega) _).setCell (by simp; try omega) _).setCell (by simp; try omega) _)


theorem to05_any (a0 a1 a2 : Int) (w : World) :
    Calls Try.prog 15 #[.agg #[.int .i64 a0, .int .i64 a1, .int .i64 a2]] w
      fun e w' => e = .returned (.agg #[.int .i64 (a0), .int .i64 (a1), .int .i64 (a2)]) ∧ Below w.heap.size w w' := by
  go_enter Try.func15, Try.ntmps15
  go_wp2
  go_returns
  exact ⟨rfl, by go_grown⟩

theorem awake05_any (w : World) : Calls Try.prog 17 #[] w fun e w' => e = .returned (.bool true) ∧ Below w.heap.size w w' := by
  have k1 := tone_one
  have k2 := shade_one
  have k3 := show_zero
  have he := fun (a b c a' b' c' : Int) (w : World) => run_eql_arr3 (P := Try.prog) (T := 144) Try.underlying144 Try.underlying5 (by kernel_rfl) (by kernel_rfl) a b c a' b' c' w
  go_enter Try.func17, Try.ntmps17
  go_wp2_with (first | (go_at_call 79; refine (tone_any _ _).mono ?_; rintro e w' ⟨rfl, rfl⟩) | (go_at_call 80; refine (shade_any _ _).mono ?_; rintro e w' ⟨rfl, rfl⟩) | (go_at_call 81; refine (show_any _ _ _ _).mono ?_; rintro e w1 ⟨rfl, hb⟩))
  go_ret
  exact ⟨rfl, by assumption⟩

end Go.Proofs.Ytkbhnomgkmeojaa
