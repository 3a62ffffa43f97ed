/- The law DiceDomes: its walk. No condition. -/
import Derived.Test.YtpjgeleglmjkfaaDome
import Derived.Test.YtpjgeleglmjkfaaDiceLaw
set_option linter.unusedVariables false
namespace Go.Proofs.Ytpjgeleglmjkfaa
open Go.RowKit

set_option maxRecDepth 100000 in
set_option maxHeartbeats 1000000 in
theorem diceDomes_no (n0 n1 n2 u v : Int) (w : World) (e0 : domeS n0 n1 n2 u v n0 (g0 u v) = n0) (e1 : domeS n0 n1 n2 u v n1 (g1 u v) = n1) (e2 : domeS n0 n1 n2 u v n2 (gz u) = n2) : Calls Try.prog 10 #[.agg #[.int .i64 n0, .int .i64 n1, .int .i64 n2], .int .i64 u, .int .i64 v] w fun e w' => e = .returned (.bool true) ∧ Below w.heap.size w w' := by
  have he := fun (a b c a' b' c' : Int) (w : World) => run_eql_arr3 (P := Try.prog) (T := 66) Try.underlying66 Try.underlying2 (by kernel_rfl) (by kernel_rfl) a b c a' b' c' w
  go_enter Try.func10, Try.ntmps10
  go_wp2_with fail
  refine calls_world (fun W => W.heap[w.heap.size]? = some (.cells #[.int .i64 n0, .int .i64 n1, .int .i64 n2] 66 (0, 0)) ∧ Below w.heap.size w W) ⟨heap_new _ _ _ (by simp), by go_grown⟩ ?_
  rintro W ⟨hA, hb⟩
  refine (to02_any _ _ _ _).mono ?_
  rintro e w1 ⟨rfl, hb1⟩
  replace hA := heap_below hb1 hA
  replace hb := below_then hb1 hb
  clear hb1
  go_wp2_with fail
  refine (dome_any _ _ _ _ _ _).mono ?_
  rintro e w2 ⟨rfl, hb1⟩
  replace hA := heap_below hb1 hA
  replace hb := below_then hb1 hb
  clear hb1
  rw [e0, e1, e2]
  go_wp2_with fail
  refine wp_world (fun W => W.heap[w.heap.size]? = some (.cells #[.int .i64 n0, .int .i64 n1, .int .i64 n2] 66 (0, 0)) ∧ W.heap[w2.heap.size]? = some (.cells #[.int .i64 n0, .int .i64 n1, .int .i64 n2] 68 (0, 0)) ∧ Below w.heap.size w W) ⟨blk_old _ hA, heap_new _ _ _ rfl, hb.alloc hb.size _⟩ ?_
  clear hA hb
  rintro W ⟨hA, hD, hb⟩
  have c0 := blk_cls (i := 0) (v := .int .i64 n0) hA rfl
  have d0 := blk_cls (i := 0) (v := .int .i64 n0) hD rfl
  have c1 := blk_cls (i := 1) (v := .int .i64 n1) hA rfl
  have d1 := blk_cls (i := 1) (v := .int .i64 n1) hD rfl
  have c2 := blk_cls (i := 2) (v := .int .i64 n2) hA rfl
  have d2 := blk_cls (i := 2) (v := .int .i64 n2) hD rfl
  clear hA hD
  refine wp_region_cls (by kernel_rfl) (by kernel_rfl) ?_
  repeat (go_big_quiet_step ((first | (go_at_call 11; exact Cls.calls (awake04_any _)) | (go_at_call 36; exact Cls.calls (globe_any _ _ _)) | (go_at_call 35; exact Cls.calls (from02_any _ _ _ _)) | (go_at_call 34; exact Cls.calls (to02_any _ _ _ _)) | (go_at_call 37; exact Cls.calls (rglobe_any _ _ _)) | (go_at_call 38; exact Cls.calls (rdome_any _ _ _ _ _ _)) | (go_at_call 39; exact Cls.calls (vdot_any _ _ _ _ _ _ _)))))
  refine wpQuiet_nil ?_
  rintro ⟨W3, hw3⟩
  go_wp2
  go_ret
  exact ⟨rfl, below_then hw3 hb⟩
set_option maxRecDepth 100000 in
set_option maxHeartbeats 1000000 in
theorem diceDomes_yes (n0 n1 n2 u v D0 D1 D2 : Int) (w : World) (e0 : domeS n0 n1 n2 u v n0 (g0 u v) = D0) (e1 : domeS n0 n1 n2 u v n1 (g1 u v) = D1) (e2 : domeS n0 n1 n2 u v n2 (gz u) = D2) (hd : 0 < dotS D0 D1 D2 n0 n1 n2) (x y z : Bool) (h0 : (D0 == n0) = x) (h1 : (D1 == n1) = y) (h2 : (D2 == n2) = z) : Calls Try.prog 10 #[.agg #[.int .i64 n0, .int .i64 n1, .int .i64 n2], .int .i64 u, .int .i64 v] w fun e w' => e = .returned (.bool true) ∧ Below w.heap.size w w' := by
  cases x <;> cases y <;> cases z
  all_goals
    have he := fun (a b c a' b' c' : Int) (w : World) => run_eql_arr3 (P := Try.prog) (T := 66) Try.underlying66 Try.underlying2 (by kernel_rfl) (by kernel_rfl) a b c a' b' c' w
    go_enter Try.func10, Try.ntmps10
    go_wp2_with fail
    refine calls_world (fun W => W.heap[w.heap.size]? = some (.cells #[.int .i64 n0, .int .i64 n1, .int .i64 n2] 66 (0, 0)) ∧ Below w.heap.size w W) ⟨heap_new _ _ _ (by simp), by go_grown⟩ ?_
    rintro W ⟨hA, hb⟩
    refine (to02_any _ _ _ _).mono ?_
    rintro e w1 ⟨rfl, hb1⟩
    replace hA := heap_below hb1 hA
    replace hb := below_then hb1 hb
    clear hb1
    go_wp2_with fail
    refine (dome_any _ _ _ _ _ _).mono ?_
    rintro e w2 ⟨rfl, hb1⟩
    replace hA := heap_below hb1 hA
    replace hb := below_then hb1 hb
    clear hb1
    rw [e0, e1, e2]
    go_wp2_with fail
    refine wp_world (fun W => W.heap[w.heap.size]? = some (.cells #[.int .i64 n0, .int .i64 n1, .int .i64 n2] 66 (0, 0)) ∧ W.heap[w2.heap.size]? = some (.cells #[.int .i64 D0, .int .i64 D1, .int .i64 D2] 68 (0, 0)) ∧ Below w.heap.size w W) ⟨blk_old _ hA, heap_new _ _ _ rfl, hb.alloc hb.size _⟩ ?_
    clear hA hb
    rintro W ⟨hA, hD, hb⟩
    have c0 := blk_cls (i := 0) (v := .int .i64 n0) hA rfl
    have d0 := blk_cls (i := 0) (v := .int .i64 D0) hD rfl
    have c1 := blk_cls (i := 1) (v := .int .i64 n1) hA rfl
    have d1 := blk_cls (i := 1) (v := .int .i64 D1) hD rfl
    have c2 := blk_cls (i := 2) (v := .int .i64 n2) hA rfl
    have d2 := blk_cls (i := 2) (v := .int .i64 D2) hD rfl
    clear hA hD
    refine wp_region_cls (by kernel_rfl) (by kernel_rfl) ?_
    repeat (go_big_quiet_step ((first | (go_at_call 11; exact Cls.calls (awake04_any _)) | (go_at_call 36; exact Cls.calls (globe_any _ _ _)) | (go_at_call 35; exact Cls.calls (from02_any _ _ _ _)) | (go_at_call 34; exact Cls.calls (to02_any _ _ _ _)) | (go_at_call 37; exact Cls.calls (rglobe_any _ _ _)) | (go_at_call 38; exact Cls.calls (rdome_any _ _ _ _ _ _)) | (go_at_call 39; exact Cls.calls (vdot_any _ _ _ _ _ _ _)))))
    refine wpQuiet_nil ?_
    rintro ⟨W3, hw3⟩
    go_wp2
    go_ret
    exact ⟨rfl, below_then hw3 hb⟩
theorem walk_DiceDomes (n0 n1 n2 u v : Int) (w : World) (_ : (Lit.int .i64 n0).wf = true) (_ : (Lit.int .i64 n1).wf = true) (_ : (Lit.int .i64 n2).wf = true) (_ : (Lit.int .i64 u).wf = true) (_ : (Lit.int .i64 v).wf = true) :
    Calls Try.prog 10 #[.agg #[.int .i64 n0, .int .i64 n1, .int .i64 n2], .int .i64 u, .int .i64 v] w fun e w' => e = .returned (.bool true) ∧ Below w.heap.size w w' := by
  rcases Int.lt_or_le 0 (dm n0 n1 n2 u v) with hd | hd
  · exact diceDomes_yes n0 n1 n2 u v _ _ _ w (by unfold domeS; rw [if_neg (by omega)]) (by unfold domeS; rw [if_neg (by omega)]) (by unfold domeS; rw [if_neg (by omega)]) hd _ _ _ rfl rfl rfl
  · exact diceDomes_no n0 n1 n2 u v w (by unfold domeS; rw [if_pos hd]) (by unfold domeS; rw [if_pos hd]) (by unfold domeS; rw [if_pos hd])

end Go.Proofs.Ytpjgeleglmjkfaa
