/- Directions drawn by two numbers, by the program and by the reference. No condition. -/
import Derived.Test.YtpjgeleglmjkfaaWave
import Derived.Test.YtpjgeleglmjkfaaVec2
import Derived.Test.YtpjgeleglmjkfaaUnit
import Derived.Test.YtpjgeleglmjkfaaFresh
import Derived.Deep.DeepCutAuto
set_option linter.unusedVariables false
namespace Go.Proofs.Ytpjgeleglmjkfaa
open Go.RowKit

def gz (u : Int) : Int := 65536 - 2 * unS u
def gr (u : Int) : Int := rootS (subS 65536 (mulS (gz u) (gz u)))
def g0 (u v : Int) : Int := mulS (gr u) (cosS v)
def g1 (u v : Int) : Int := mulS (gr u) (sinS v)
def ds (n0 n1 n2 u v n g : Int) : Int := vuS (addS (g0 u v) n0) (addS (g1 u v) n1) (addS (gz u) n2) (addS g n)
def dm (n0 n1 n2 u v : Int) : Int := dotS (ds n0 n1 n2 u v n0 (g0 u v)) (ds n0 n1 n2 u v n1 (g1 u v)) (ds n0 n1 n2 u v n2 (gz u)) n0 n1 n2
def domeS (n0 n1 n2 u v n g : Int) : Int := if dm n0 n1 n2 u v ≤ 0 then n else ds n0 n1 n2 u v n g
theorem gz_sub (u : Int) : subS 65536 (2 * unS u) = gz u := by
  have := unS_bd u
  unfold subS gz
  rw [heldS_id (n := 65536) (by omega) (by omega), heldS_id (n := 2 * unS u) (by omega) (by omega)]
  exact heldS_id (by omega) (by omega)

theorem globe_any (u v : Int) (w : World) : Calls Try.prog 36 #[.int .i64 u, .int .i64 v] w fun e w' => e = .returned (.agg #[.int .i64 (g0 u v), .int .i64 (g1 u v), .int .i64 (gz u)]) ∧ Below w.heap.size w w' := by
  have hu := unS_bd u
  have e := gz_sub u
  have e2 : 65536 - 2 * unS u = gz u := rfl
  go_enter Try.func36, Try.ntmps36
  go_wp2_with (first | (go_at_call 48; refine (funit_any _ _).mono ?_; rintro e w' ⟨rfl, rfl⟩) | (go_at_call 47; refine (fsub_any _ _ _).mono ?_; rintro e w' ⟨rfl, rfl⟩) | (go_at_call 50; refine (fmul_any _ _ _).mono ?_; rintro e w' ⟨rfl, rfl⟩) | (go_at_call 49; refine (froot_any _ _).mono ?_; rintro e w' ⟨rfl, rfl⟩) | (go_at_call 52; refine (cos_any _ _).mono ?_; rintro e w' ⟨rfl, rfl⟩) | (go_at_call 53; refine (sin_any _ _).mono ?_; rintro e w' ⟨rfl, rfl⟩))
  refine calls_world (fun W => W.heap[w.heap.size]? = some (.cells #[.int .i64 0, .int .i64 0, .int .i64 0] 68 (0, 0)) ∧ w.heap.size < W.heap.size ∧ Below w.heap.size w W) ⟨heap_new _ _ _ (by simp), by simp, by go_grown⟩ ?_
  rintro W ⟨hR, hz, hb⟩
  refine (vnew_any _ _ _ _).mono ?_
  rintro e W1 ⟨rfl, hb1⟩
  replace hR := heap_below hb1 hR
  replace hb := below_then hb1 hb
  clear hb1 hz
  have r0 := blk_cell (i := 0) (v := .int .i64 0) hR rfl
  have f0 := blk_free (i := 0) hR
  have r1 := blk_cell (i := 1) (v := .int .i64 0) hR rfl
  have f1 := blk_free (i := 1) hR
  have r2 := blk_cell (i := 2) (v := .int .i64 0) hR rfl
  have f2 := blk_free (i := 2) hR
  go_wp2
  refine bodyPost_ret (v := .agg #[.int .i64 (g0 u v), .int .i64 (g1 u v), .int .i64 (gz u)]) (by simp [results, Try.results36, go_sem, r0, r1, r2]; exact ⟨rfl, rfl⟩) rfl ⟨rfl, ?_⟩
  exact ((hb.setCell (by simp; try omega) _).setCell (by simp; try omega) _).setCell (by simp; try omega) _

theorem rglobe_any (u v : Int) (w : World) : Calls Try.prog 37 #[.int .i64 u, .int .i64 v] w fun e w' => e = .returned (.agg #[.int .i64 (g0 u v), .int .i64 (g1 u v), .int .i64 (gz u)]) ∧ Below w.heap.size w w' := by
  have hu := unS_bd u
  have e := gz_sub u
  have e2 : 65536 - 2 * unS u = gz u := rfl
  go_enter Try.func37, Try.ntmps37
  go_wp2_with (first | (go_at_call 54; refine (runit_any _ _).mono ?_; rintro e w' ⟨rfl, rfl⟩) | (go_at_call 56; refine (rsub_any _ _ _).mono ?_; rintro e w' ⟨rfl, rfl⟩) | (go_at_call 57; refine (rmul_any _ _ _).mono ?_; rintro e w' ⟨rfl, rfl⟩) | (go_at_call 55; refine (rroot_any _ _).mono ?_; rintro e w' ⟨rfl, rfl⟩) | (go_at_call 58; refine (rcos_any _ _).mono ?_; rintro e w' ⟨rfl, rfl⟩) | (go_at_call 59; refine (rsin_any _ _).mono ?_; rintro e w' ⟨rfl, rfl⟩))
  go_returns
  exact ⟨rfl, by go_grown⟩

set_option maxRecDepth 100000 in
theorem dome_any (n0 n1 n2 u v : Int) (w : World) : Calls Try.prog 33 #[.agg #[.int .i64 n0, .int .i64 n1, .int .i64 n2], .int .i64 u, .int .i64 v] w fun e w' => e = .returned (.agg #[.int .i64 (domeS n0 n1 n2 u v n0 (g0 u v)), .int .i64 (domeS n0 n1 n2 u v n1 (g1 u v)), .int .i64 (domeS n0 n1 n2 u v n2 (gz u))]) ∧ Below w.heap.size w w' := by
  rcases Int.lt_or_le 0 (dm n0 n1 n2 u v) with hd | hd
  · have E0 : Hid (domeS n0 n1 n2 u v n0 (g0 u v) = (ds n0 n1 n2 u v n0 (g0 u v))) := by unfold domeS; rw [if_neg (by omega)]; exact Lib.hid rfl
    have E1 : Hid (domeS n0 n1 n2 u v n1 (g1 u v) = (ds n0 n1 n2 u v n1 (g1 u v))) := by unfold domeS; rw [if_neg (by omega)]; exact Lib.hid rfl
    have E2 : Hid (domeS n0 n1 n2 u v n2 (gz u) = (ds n0 n1 n2 u v n2 (gz u))) := by unfold domeS; rw [if_neg (by omega)]; exact Lib.hid rfl
    rw [E0.out, E1.out, E2.out]
    clear E0 E1 E2
    go_enter Try.func33, Try.ntmps33
    go_wp2
    refine wp_world (fun W => W.heap[w.heap.size]? = some (.cells #[.int .i64 n0, .int .i64 n1, .int .i64 n2] 68 (0, 0)) ∧ W.heap[w.heap.size + 1]? = some (.cells #[.int .i64 0, .int .i64 0, .int .i64 0] 68 (0, 0)) ∧ w.heap.size + 1 < W.heap.size ∧ Below w.heap.size w W) ⟨blk_old _ (heap_new _ _ _ (by simp)), heap_new _ _ _ (by simp), by simp, by go_grown⟩ ?_
    rintro W ⟨hA0, hR, hz, hb⟩
    have c0 := blk_cls (i := 0) (v := .int .i64 n0) hA0 rfl
    have c1 := blk_cls (i := 1) (v := .int .i64 n1) hA0 rfl
    have c2 := blk_cls (i := 2) (v := .int .i64 n2) hA0 rfl
    refine wp_region_fresh 7 [(6, 7, .cells #[.int .i64 0, .int .i64 0, .int .i64 0] 68 (0, 0))] [.int .i64 u, .int .i64 v, .agg #[.int .i64 (g0 u v), .int .i64 (g1 u v), .int .i64 (gz u)], .agg #[.int .i64 n0, .int .i64 n1, .int .i64 n2], .agg #[.int .i64 (addS (g0 u v) n0), .int .i64 (addS (g1 u v) n1), .int .i64 (addS (gz u) n2)], .agg #[.int .i64 (ds n0 n1 n2 u v n0 (g0 u v)), .int .i64 (ds n0 n1 n2 u v n1 (g1 u v)), .int .i64 (ds n0 n1 n2 u v n2 (gz u))]] (by kernel_rfl) (by kernel_rfl) ⟨fun e he => by simp only [List.mem_cons, List.not_mem_nil, or_false] at he; rcases he with rfl; exact ⟨_, rfl, rfl, rfl, fun a w => by kernel_rfl⟩, by simp, by simp, by simp, other_of (by kernel_rfl)⟩ ?_ (laid_all (by simp) (by simp; kernel_rfl))
    simp only [List.take_succ_cons, List.take_zero, List.drop_succ_cons, List.drop_zero]
    refine wpS_op _ (by rfl) rfl (by rfl) (fun s => by simp [go_sem, strongUpon]) ?_
    refine wpS_op _ (by rfl) rfl (by rfl) (fun s => by simp [go_sem, strongUpon]) ?_
    refine wpS_op _ (by rfl) rfl (by rfl) (fun s => by simp [go_sem]; exact strong_call (globe_any _ _ _)) ?_
    refine wpS_op _ (by rfl) rfl (by rfl) (fun s => by simp [c0, c1, c2, go_sem, strongUpon]) ?_
    refine wpS_op _ (by rfl) rfl (by rfl) (fun s => by simp [go_sem]; exact strong_call (vadd_any _ _ _ _ _ _ _)) ?_
    refine wpS_op _ (by rfl) rfl (by rfl) (fun s => by simp [go_sem]; exact strong_call (vunit_any _ _ _ _)) ?_
    refine wpS_al (by rfl) fun x => ?_
    refine wpS_nil fun s hs => ?_
    obtain ⟨b, q1, q2, q3, q4⟩ := hs _ (List.Mem.head _)
    simp [Act.put] at q1
    subst q1
    clear hs q4 c0 c1 c2
    obtain ⟨W1, hb1⟩ := s
    simp only [Act.put, List.setIfInBounds_toArray, List.set_cons_succ, List.set_cons_zero, List.getD_cons_zero, List.getD_cons_succ] at q2 ⊢
    replace hA0 := heap_below hb1 hA0
    replace hR := heap_below hb1 hR
    replace hb := below_then hb1 hb
    have hx0 : w.heap.size < x := by omega
    have hx1 : w.heap.size + 1 < x := by omega
    clear hb1 hz q3
    have x0 := blk_cell (i := 0) (v := .int .i64 0) q2 rfl
    have x1 := blk_cell (i := 1) (v := .int .i64 0) q2 rfl
    have x2 := blk_cell (i := 2) (v := .int .i64 0) q2 rfl
    have ux0 := blk_free (i := 0) q2
    have ux1 := blk_free (i := 1) q2
    have ux2 := blk_free (i := 2) q2
    go_upto_region 2 with fail
    refine wp_world (fun W => W.heap[w.heap.size]? = some (.cells #[.int .i64 n0, .int .i64 n1, .int .i64 n2] 68 (0, 0)) ∧ W.heap[w.heap.size + 1]? = some (.cells #[.int .i64 0, .int .i64 0, .int .i64 0] 68 (0, 0)) ∧ W.heap[x]? = some (.cells #[.int .i64 (ds n0 n1 n2 u v n0 (g0 u v)), .int .i64 (ds n0 n1 n2 u v n1 (g1 u v)), .int .i64 (ds n0 n1 n2 u v n2 (gz u))] 68 (0, 0)) ∧ Below w.heap.size w W) ⟨blk_other _ (blk_other _ (blk_other _ hA0 (by simp; omega)) (by simp; omega)) (by simp; omega), blk_other _ (blk_other _ (blk_other _ hR (by simp; omega)) (by simp; omega)) (by simp; omega), blk_set _ (blk_set _ (blk_set _ q2)), ((hb.setCell (by simp; omega) _).setCell (by simp; omega) _).setCell (by simp; omega) _⟩ ?_
    clear hA0 hR hb q2 x0 x1 x2 ux0 ux1 ux2
    rintro W2 ⟨hA0, hR, hX, hb⟩
    have c0 := blk_cell (i := 0) (v := .int .i64 n0) hA0 rfl
    have c1 := blk_cell (i := 1) (v := .int .i64 n1) hA0 rfl
    have c2 := blk_cell (i := 2) (v := .int .i64 n2) hA0 rfl
    have x0 := blk_cell (i := 0) (v := .int .i64 (ds n0 n1 n2 u v n0 (g0 u v))) hX rfl
    have x1 := blk_cell (i := 1) (v := .int .i64 (ds n0 n1 n2 u v n1 (g1 u v))) hX rfl
    have x2 := blk_cell (i := 2) (v := .int .i64 (ds n0 n1 n2 u v n2 (gz u))) hX rfl
    go_wp2_with fail
    refine (vdot_any _ _ _ _ _ _ _).mono ?_
    rintro e W3 ⟨rfl, hb1⟩
    have ed : dotS (ds n0 n1 n2 u v n0 (g0 u v)) (ds n0 n1 n2 u v n1 (g1 u v)) (ds n0 n1 n2 u v n2 (gz u)) n0 n1 n2 = dm n0 n1 n2 u v := rfl
    rw [ed]
    clear ed c0 c1 c2 x0 x1 x2
    replace hA0 := heap_below hb1 hA0
    replace hR := heap_below hb1 hR
    replace hX := heap_below hb1 hX
    replace hb := below_then hb1 hb
    clear hb1
    have c0 := blk_cell (i := 0) (v := .int .i64 n0) hA0 rfl
    have c1 := blk_cell (i := 1) (v := .int .i64 n1) hA0 rfl
    have c2 := blk_cell (i := 2) (v := .int .i64 n2) hA0 rfl
    have x0 := blk_cell (i := 0) (v := .int .i64 (ds n0 n1 n2 u v n0 (g0 u v))) hX rfl
    have x1 := blk_cell (i := 1) (v := .int .i64 (ds n0 n1 n2 u v n1 (g1 u v))) hX rfl
    have x2 := blk_cell (i := 2) (v := .int .i64 (ds n0 n1 n2 u v n2 (gz u))) hX rfl
    have r0 := blk_cell (i := 0) (v := .int .i64 0) hR rfl
    have f0 := blk_free (i := 0) hR
    have r1 := blk_cell (i := 1) (v := .int .i64 0) hR rfl
    have f1 := blk_free (i := 1) hR
    have r2 := blk_cell (i := 2) (v := .int .i64 0) hR rfl
    have f2 := blk_free (i := 2) hR
    go_wp2
    refine bodyPost_ret (v := .agg #[.int .i64 (ds n0 n1 n2 u v n0 (g0 u v)), .int .i64 (ds n0 n1 n2 u v n1 (g1 u v)), .int .i64 (ds n0 n1 n2 u v n2 (gz u))]) (by simp [results, Try.results33, go_sem, r0, r1, r2]) rfl ⟨rfl, ?_⟩
    exact ((hb.setCell (by simp; try omega) _).setCell (by simp; try omega) _).setCell (by simp; try omega) _
  · have E0 : Hid (domeS n0 n1 n2 u v n0 (g0 u v) = n0) := by unfold domeS; rw [if_pos hd]; exact Lib.hid rfl
    have E1 : Hid (domeS n0 n1 n2 u v n1 (g1 u v) = n1) := by unfold domeS; rw [if_pos hd]; exact Lib.hid rfl
    have E2 : Hid (domeS n0 n1 n2 u v n2 (gz u) = n2) := by unfold domeS; rw [if_pos hd]; exact Lib.hid rfl
    rw [E0.out, E1.out, E2.out]
    clear E0 E1 E2
    go_enter Try.func33, Try.ntmps33
    go_wp2
    refine wp_world (fun W => W.heap[w.heap.size]? = some (.cells #[.int .i64 n0, .int .i64 n1, .int .i64 n2] 68 (0, 0)) ∧ W.heap[w.heap.size + 1]? = some (.cells #[.int .i64 0, .int .i64 0, .int .i64 0] 68 (0, 0)) ∧ w.heap.size + 1 < W.heap.size ∧ Below w.heap.size w W) ⟨blk_old _ (heap_new _ _ _ (by simp)), heap_new _ _ _ (by simp), by simp, by go_grown⟩ ?_
    rintro W ⟨hA0, hR, hz, hb⟩
    have c0 := blk_cls (i := 0) (v := .int .i64 n0) hA0 rfl
    have c1 := blk_cls (i := 1) (v := .int .i64 n1) hA0 rfl
    have c2 := blk_cls (i := 2) (v := .int .i64 n2) hA0 rfl
    refine wp_region_fresh 7 [(6, 7, .cells #[.int .i64 0, .int .i64 0, .int .i64 0] 68 (0, 0))] [.int .i64 u, .int .i64 v, .agg #[.int .i64 (g0 u v), .int .i64 (g1 u v), .int .i64 (gz u)], .agg #[.int .i64 n0, .int .i64 n1, .int .i64 n2], .agg #[.int .i64 (addS (g0 u v) n0), .int .i64 (addS (g1 u v) n1), .int .i64 (addS (gz u) n2)], .agg #[.int .i64 (ds n0 n1 n2 u v n0 (g0 u v)), .int .i64 (ds n0 n1 n2 u v n1 (g1 u v)), .int .i64 (ds n0 n1 n2 u v n2 (gz u))]] (by kernel_rfl) (by kernel_rfl) ⟨fun e he => by simp only [List.mem_cons, List.not_mem_nil, or_false] at he; rcases he with rfl; exact ⟨_, rfl, rfl, rfl, fun a w => by kernel_rfl⟩, by simp, by simp, by simp, other_of (by kernel_rfl)⟩ ?_ (laid_all (by simp) (by simp; kernel_rfl))
    simp only [List.take_succ_cons, List.take_zero, List.drop_succ_cons, List.drop_zero]
    refine wpS_op _ (by rfl) rfl (by rfl) (fun s => by simp [go_sem, strongUpon]) ?_
    refine wpS_op _ (by rfl) rfl (by rfl) (fun s => by simp [go_sem, strongUpon]) ?_
    refine wpS_op _ (by rfl) rfl (by rfl) (fun s => by simp [go_sem]; exact strong_call (globe_any _ _ _)) ?_
    refine wpS_op _ (by rfl) rfl (by rfl) (fun s => by simp [c0, c1, c2, go_sem, strongUpon]) ?_
    refine wpS_op _ (by rfl) rfl (by rfl) (fun s => by simp [go_sem]; exact strong_call (vadd_any _ _ _ _ _ _ _)) ?_
    refine wpS_op _ (by rfl) rfl (by rfl) (fun s => by simp [go_sem]; exact strong_call (vunit_any _ _ _ _)) ?_
    refine wpS_al (by rfl) fun x => ?_
    refine wpS_nil fun s hs => ?_
    obtain ⟨b, q1, q2, q3, q4⟩ := hs _ (List.Mem.head _)
    simp [Act.put] at q1
    subst q1
    clear hs q4 c0 c1 c2
    obtain ⟨W1, hb1⟩ := s
    simp only [Act.put, List.setIfInBounds_toArray, List.set_cons_succ, List.set_cons_zero, List.getD_cons_zero, List.getD_cons_succ] at q2 ⊢
    replace hA0 := heap_below hb1 hA0
    replace hR := heap_below hb1 hR
    replace hb := below_then hb1 hb
    have hx0 : w.heap.size < x := by omega
    have hx1 : w.heap.size + 1 < x := by omega
    clear hb1 hz q3
    have x0 := blk_cell (i := 0) (v := .int .i64 0) q2 rfl
    have x1 := blk_cell (i := 1) (v := .int .i64 0) q2 rfl
    have x2 := blk_cell (i := 2) (v := .int .i64 0) q2 rfl
    have ux0 := blk_free (i := 0) q2
    have ux1 := blk_free (i := 1) q2
    have ux2 := blk_free (i := 2) q2
    go_upto_region 2 with fail
    refine wp_world (fun W => W.heap[w.heap.size]? = some (.cells #[.int .i64 n0, .int .i64 n1, .int .i64 n2] 68 (0, 0)) ∧ W.heap[w.heap.size + 1]? = some (.cells #[.int .i64 0, .int .i64 0, .int .i64 0] 68 (0, 0)) ∧ W.heap[x]? = some (.cells #[.int .i64 (ds n0 n1 n2 u v n0 (g0 u v)), .int .i64 (ds n0 n1 n2 u v n1 (g1 u v)), .int .i64 (ds n0 n1 n2 u v n2 (gz u))] 68 (0, 0)) ∧ Below w.heap.size w W) ⟨blk_other _ (blk_other _ (blk_other _ hA0 (by simp; omega)) (by simp; omega)) (by simp; omega), blk_other _ (blk_other _ (blk_other _ hR (by simp; omega)) (by simp; omega)) (by simp; omega), blk_set _ (blk_set _ (blk_set _ q2)), ((hb.setCell (by simp; omega) _).setCell (by simp; omega) _).setCell (by simp; omega) _⟩ ?_
    clear hA0 hR hb q2 x0 x1 x2 ux0 ux1 ux2
    rintro W2 ⟨hA0, hR, hX, hb⟩
    have c0 := blk_cell (i := 0) (v := .int .i64 n0) hA0 rfl
    have c1 := blk_cell (i := 1) (v := .int .i64 n1) hA0 rfl
    have c2 := blk_cell (i := 2) (v := .int .i64 n2) hA0 rfl
    have x0 := blk_cell (i := 0) (v := .int .i64 (ds n0 n1 n2 u v n0 (g0 u v))) hX rfl
    have x1 := blk_cell (i := 1) (v := .int .i64 (ds n0 n1 n2 u v n1 (g1 u v))) hX rfl
    have x2 := blk_cell (i := 2) (v := .int .i64 (ds n0 n1 n2 u v n2 (gz u))) hX rfl
    go_wp2_with fail
    refine (vdot_any _ _ _ _ _ _ _).mono ?_
    rintro e W3 ⟨rfl, hb1⟩
    have ed : dotS (ds n0 n1 n2 u v n0 (g0 u v)) (ds n0 n1 n2 u v n1 (g1 u v)) (ds n0 n1 n2 u v n2 (gz u)) n0 n1 n2 = dm n0 n1 n2 u v := rfl
    rw [ed]
    clear ed c0 c1 c2 x0 x1 x2
    replace hA0 := heap_below hb1 hA0
    replace hR := heap_below hb1 hR
    replace hX := heap_below hb1 hX
    replace hb := below_then hb1 hb
    clear hb1
    have c0 := blk_cell (i := 0) (v := .int .i64 n0) hA0 rfl
    have c1 := blk_cell (i := 1) (v := .int .i64 n1) hA0 rfl
    have c2 := blk_cell (i := 2) (v := .int .i64 n2) hA0 rfl
    have x0 := blk_cell (i := 0) (v := .int .i64 (ds n0 n1 n2 u v n0 (g0 u v))) hX rfl
    have x1 := blk_cell (i := 1) (v := .int .i64 (ds n0 n1 n2 u v n1 (g1 u v))) hX rfl
    have x2 := blk_cell (i := 2) (v := .int .i64 (ds n0 n1 n2 u v n2 (gz u))) hX rfl
    have r0 := blk_cell (i := 0) (v := .int .i64 0) hR rfl
    have f0 := blk_free (i := 0) hR
    have r1 := blk_cell (i := 1) (v := .int .i64 0) hR rfl
    have f1 := blk_free (i := 1) hR
    have r2 := blk_cell (i := 2) (v := .int .i64 0) hR rfl
    have f2 := blk_free (i := 2) hR
    go_wp2
    refine bodyPost_ret (v := .agg #[.int .i64 n0, .int .i64 n1, .int .i64 n2]) (by simp [results, Try.results33, go_sem, r0, r1, r2]) rfl ⟨rfl, ?_⟩
    exact ((hb.setCell (by simp; try omega) _).setCell (by simp; try omega) _).setCell (by simp; try omega) _

set_option maxRecDepth 100000 in
theorem rdome_any (n0 n1 n2 u v : Int) (w : World) : Calls Try.prog 38 #[.agg #[.int .i64 n0, .int .i64 n1, .int .i64 n2], .int .i64 u, .int .i64 v] w fun e w' => e = .returned (.agg #[.int .i64 (domeS n0 n1 n2 u v n0 (g0 u v)), .int .i64 (domeS n0 n1 n2 u v n1 (g1 u v)), .int .i64 (domeS n0 n1 n2 u v n2 (gz u))]) ∧ Below w.heap.size w w' := by
  rcases Int.lt_or_le 0 (dm n0 n1 n2 u v) with hd | hd
  · have E0 : Hid (domeS n0 n1 n2 u v n0 (g0 u v) = (ds n0 n1 n2 u v n0 (g0 u v))) := by unfold domeS; rw [if_neg (by omega)]; exact Lib.hid rfl
    have E1 : Hid (domeS n0 n1 n2 u v n1 (g1 u v) = (ds n0 n1 n2 u v n1 (g1 u v))) := by unfold domeS; rw [if_neg (by omega)]; exact Lib.hid rfl
    have E2 : Hid (domeS n0 n1 n2 u v n2 (gz u) = (ds n0 n1 n2 u v n2 (gz u))) := by unfold domeS; rw [if_neg (by omega)]; exact Lib.hid rfl
    rw [E0.out, E1.out, E2.out]
    clear E0 E1 E2
    go_enter Try.func38, Try.ntmps38
    go_wp2
    refine wp_world (fun W => W.heap[w.heap.size]? = some (.cells #[.int .i64 n0, .int .i64 n1, .int .i64 n2] 66 (0, 0)) ∧ W.heap[w.heap.size + 1]? = some (.cells #[.int .i64 0, .int .i64 0, .int .i64 0] 66 (0, 0)) ∧ w.heap.size + 1 < W.heap.size ∧ Below w.heap.size w W) ⟨blk_old _ (heap_new _ _ _ (by simp)), heap_new _ _ _ (by simp), by simp, by go_grown⟩ ?_
    rintro W ⟨hA0, hR, hz, hb⟩
    have c0 := blk_cls (i := 0) (v := .int .i64 n0) hA0 rfl
    have c1 := blk_cls (i := 1) (v := .int .i64 n1) hA0 rfl
    have c2 := blk_cls (i := 2) (v := .int .i64 n2) hA0 rfl
    refine wp_region_fresh 7 [(6, 7, .cells #[.int .i64 0, .int .i64 0, .int .i64 0] 66 (0, 0))] [.int .i64 u, .int .i64 v, .agg #[.int .i64 (g0 u v), .int .i64 (g1 u v), .int .i64 (gz u)], .agg #[.int .i64 n0, .int .i64 n1, .int .i64 n2], .agg #[.int .i64 (addS (g0 u v) n0), .int .i64 (addS (g1 u v) n1), .int .i64 (addS (gz u) n2)], .agg #[.int .i64 (ds n0 n1 n2 u v n0 (g0 u v)), .int .i64 (ds n0 n1 n2 u v n1 (g1 u v)), .int .i64 (ds n0 n1 n2 u v n2 (gz u))]] (by kernel_rfl) (by kernel_rfl) ⟨fun e he => by simp only [List.mem_cons, List.not_mem_nil, or_false] at he; rcases he with rfl; exact ⟨_, rfl, rfl, rfl, fun a w => by kernel_rfl⟩, by simp, by simp, by simp, other_of (by kernel_rfl)⟩ ?_ (laid_all (by simp) (by simp; kernel_rfl))
    simp only [List.take_succ_cons, List.take_zero, List.drop_succ_cons, List.drop_zero]
    refine wpS_op _ (by rfl) rfl (by rfl) (fun s => by simp [go_sem, strongUpon]) ?_
    refine wpS_op _ (by rfl) rfl (by rfl) (fun s => by simp [go_sem, strongUpon]) ?_
    refine wpS_op _ (by rfl) rfl (by rfl) (fun s => by simp [go_sem]; exact strong_call (rglobe_any _ _ _)) ?_
    refine wpS_op _ (by rfl) rfl (by rfl) (fun s => by simp [c0, c1, c2, go_sem, strongUpon]) ?_
    refine wpS_op _ (by rfl) rfl (by rfl) (fun s => by simp [go_sem]; exact strong_call (rvadd_any _ _ _ _ _ _ _)) ?_
    refine wpS_op _ (by rfl) rfl (by rfl) (fun s => by simp [go_sem]; exact strong_call (rvunit_any _ _ _ _)) ?_
    refine wpS_al (by rfl) fun x => ?_
    refine wpS_nil fun s hs => ?_
    obtain ⟨b, q1, q2, q3, q4⟩ := hs _ (List.Mem.head _)
    simp [Act.put] at q1
    subst q1
    clear hs q4 c0 c1 c2
    obtain ⟨W1, hb1⟩ := s
    simp only [Act.put, List.setIfInBounds_toArray, List.set_cons_succ, List.set_cons_zero, List.getD_cons_zero, List.getD_cons_succ] at q2 ⊢
    replace hA0 := heap_below hb1 hA0
    replace hR := heap_below hb1 hR
    replace hb := below_then hb1 hb
    have hx0 : w.heap.size < x := by omega
    have hx1 : w.heap.size + 1 < x := by omega
    clear hb1 hz q3
    have x0 := blk_cell (i := 0) (v := .int .i64 0) q2 rfl
    have x1 := blk_cell (i := 1) (v := .int .i64 0) q2 rfl
    have x2 := blk_cell (i := 2) (v := .int .i64 0) q2 rfl
    have ux0 := blk_free (i := 0) q2
    have ux1 := blk_free (i := 1) q2
    have ux2 := blk_free (i := 2) q2
    go_upto_region 2 with fail
    refine wp_world (fun W => W.heap[w.heap.size]? = some (.cells #[.int .i64 n0, .int .i64 n1, .int .i64 n2] 66 (0, 0)) ∧ W.heap[w.heap.size + 1]? = some (.cells #[.int .i64 0, .int .i64 0, .int .i64 0] 66 (0, 0)) ∧ W.heap[x]? = some (.cells #[.int .i64 (ds n0 n1 n2 u v n0 (g0 u v)), .int .i64 (ds n0 n1 n2 u v n1 (g1 u v)), .int .i64 (ds n0 n1 n2 u v n2 (gz u))] 66 (0, 0)) ∧ Below w.heap.size w W) ⟨blk_other _ (blk_other _ (blk_other _ hA0 (by simp; omega)) (by simp; omega)) (by simp; omega), blk_other _ (blk_other _ (blk_other _ hR (by simp; omega)) (by simp; omega)) (by simp; omega), blk_set _ (blk_set _ (blk_set _ q2)), ((hb.setCell (by simp; omega) _).setCell (by simp; omega) _).setCell (by simp; omega) _⟩ ?_
    clear hA0 hR hb q2 x0 x1 x2 ux0 ux1 ux2
    rintro W2 ⟨hA0, hR, hX, hb⟩
    have c0 := blk_cell (i := 0) (v := .int .i64 n0) hA0 rfl
    have c1 := blk_cell (i := 1) (v := .int .i64 n1) hA0 rfl
    have c2 := blk_cell (i := 2) (v := .int .i64 n2) hA0 rfl
    have x0 := blk_cell (i := 0) (v := .int .i64 (ds n0 n1 n2 u v n0 (g0 u v))) hX rfl
    have x1 := blk_cell (i := 1) (v := .int .i64 (ds n0 n1 n2 u v n1 (g1 u v))) hX rfl
    have x2 := blk_cell (i := 2) (v := .int .i64 (ds n0 n1 n2 u v n2 (gz u))) hX rfl
    go_wp2_with fail
    refine (rvdot_any _ _ _ _ _ _ _).mono ?_
    rintro e W3 ⟨rfl, hb1⟩
    have ed : dotS (ds n0 n1 n2 u v n0 (g0 u v)) (ds n0 n1 n2 u v n1 (g1 u v)) (ds n0 n1 n2 u v n2 (gz u)) n0 n1 n2 = dm n0 n1 n2 u v := rfl
    rw [ed]
    clear ed c0 c1 c2 x0 x1 x2
    replace hA0 := heap_below hb1 hA0
    replace hR := heap_below hb1 hR
    replace hX := heap_below hb1 hX
    replace hb := below_then hb1 hb
    clear hb1
    have c0 := blk_cell (i := 0) (v := .int .i64 n0) hA0 rfl
    have c1 := blk_cell (i := 1) (v := .int .i64 n1) hA0 rfl
    have c2 := blk_cell (i := 2) (v := .int .i64 n2) hA0 rfl
    have x0 := blk_cell (i := 0) (v := .int .i64 (ds n0 n1 n2 u v n0 (g0 u v))) hX rfl
    have x1 := blk_cell (i := 1) (v := .int .i64 (ds n0 n1 n2 u v n1 (g1 u v))) hX rfl
    have x2 := blk_cell (i := 2) (v := .int .i64 (ds n0 n1 n2 u v n2 (gz u))) hX rfl
    have r0 := blk_cell (i := 0) (v := .int .i64 0) hR rfl
    have f0 := blk_free (i := 0) hR
    have r1 := blk_cell (i := 1) (v := .int .i64 0) hR rfl
    have f1 := blk_free (i := 1) hR
    have r2 := blk_cell (i := 2) (v := .int .i64 0) hR rfl
    have f2 := blk_free (i := 2) hR
    go_wp2
    refine bodyPost_ret (v := .agg #[.int .i64 (ds n0 n1 n2 u v n0 (g0 u v)), .int .i64 (ds n0 n1 n2 u v n1 (g1 u v)), .int .i64 (ds n0 n1 n2 u v n2 (gz u))]) (by simp [results, Try.results38, go_sem, r0, r1, r2]) rfl ⟨rfl, ?_⟩
    exact ((hb.setCell (by simp; try omega) _).setCell (by simp; try omega) _).setCell (by simp; try omega) _
  · have E0 : Hid (domeS n0 n1 n2 u v n0 (g0 u v) = n0) := by unfold domeS; rw [if_pos hd]; exact Lib.hid rfl
    have E1 : Hid (domeS n0 n1 n2 u v n1 (g1 u v) = n1) := by unfold domeS; rw [if_pos hd]; exact Lib.hid rfl
    have E2 : Hid (domeS n0 n1 n2 u v n2 (gz u) = n2) := by unfold domeS; rw [if_pos hd]; exact Lib.hid rfl
    rw [E0.out, E1.out, E2.out]
    clear E0 E1 E2
    go_enter Try.func38, Try.ntmps38
    go_wp2
    refine wp_world (fun W => W.heap[w.heap.size]? = some (.cells #[.int .i64 n0, .int .i64 n1, .int .i64 n2] 66 (0, 0)) ∧ W.heap[w.heap.size + 1]? = some (.cells #[.int .i64 0, .int .i64 0, .int .i64 0] 66 (0, 0)) ∧ w.heap.size + 1 < W.heap.size ∧ Below w.heap.size w W) ⟨blk_old _ (heap_new _ _ _ (by simp)), heap_new _ _ _ (by simp), by simp, by go_grown⟩ ?_
    rintro W ⟨hA0, hR, hz, hb⟩
    have c0 := blk_cls (i := 0) (v := .int .i64 n0) hA0 rfl
    have c1 := blk_cls (i := 1) (v := .int .i64 n1) hA0 rfl
    have c2 := blk_cls (i := 2) (v := .int .i64 n2) hA0 rfl
    refine wp_region_fresh 7 [(6, 7, .cells #[.int .i64 0, .int .i64 0, .int .i64 0] 66 (0, 0))] [.int .i64 u, .int .i64 v, .agg #[.int .i64 (g0 u v), .int .i64 (g1 u v), .int .i64 (gz u)], .agg #[.int .i64 n0, .int .i64 n1, .int .i64 n2], .agg #[.int .i64 (addS (g0 u v) n0), .int .i64 (addS (g1 u v) n1), .int .i64 (addS (gz u) n2)], .agg #[.int .i64 (ds n0 n1 n2 u v n0 (g0 u v)), .int .i64 (ds n0 n1 n2 u v n1 (g1 u v)), .int .i64 (ds n0 n1 n2 u v n2 (gz u))]] (by kernel_rfl) (by kernel_rfl) ⟨fun e he => by simp only [List.mem_cons, List.not_mem_nil, or_false] at he; rcases he with rfl; exact ⟨_, rfl, rfl, rfl, fun a w => by kernel_rfl⟩, by simp, by simp, by simp, other_of (by kernel_rfl)⟩ ?_ (laid_all (by simp) (by simp; kernel_rfl))
    simp only [List.take_succ_cons, List.take_zero, List.drop_succ_cons, List.drop_zero]
    refine wpS_op _ (by rfl) rfl (by rfl) (fun s => by simp [go_sem, strongUpon]) ?_
    refine wpS_op _ (by rfl) rfl (by rfl) (fun s => by simp [go_sem, strongUpon]) ?_
    refine wpS_op _ (by rfl) rfl (by rfl) (fun s => by simp [go_sem]; exact strong_call (rglobe_any _ _ _)) ?_
    refine wpS_op _ (by rfl) rfl (by rfl) (fun s => by simp [c0, c1, c2, go_sem, strongUpon]) ?_
    refine wpS_op _ (by rfl) rfl (by rfl) (fun s => by simp [go_sem]; exact strong_call (rvadd_any _ _ _ _ _ _ _)) ?_
    refine wpS_op _ (by rfl) rfl (by rfl) (fun s => by simp [go_sem]; exact strong_call (rvunit_any _ _ _ _)) ?_
    refine wpS_al (by rfl) fun x => ?_
    refine wpS_nil fun s hs => ?_
    obtain ⟨b, q1, q2, q3, q4⟩ := hs _ (List.Mem.head _)
    simp [Act.put] at q1
    subst q1
    clear hs q4 c0 c1 c2
    obtain ⟨W1, hb1⟩ := s
    simp only [Act.put, List.setIfInBounds_toArray, List.set_cons_succ, List.set_cons_zero, List.getD_cons_zero, List.getD_cons_succ] at q2 ⊢
    replace hA0 := heap_below hb1 hA0
    replace hR := heap_below hb1 hR
    replace hb := below_then hb1 hb
    have hx0 : w.heap.size < x := by omega
    have hx1 : w.heap.size + 1 < x := by omega
    clear hb1 hz q3
    have x0 := blk_cell (i := 0) (v := .int .i64 0) q2 rfl
    have x1 := blk_cell (i := 1) (v := .int .i64 0) q2 rfl
    have x2 := blk_cell (i := 2) (v := .int .i64 0) q2 rfl
    have ux0 := blk_free (i := 0) q2
    have ux1 := blk_free (i := 1) q2
    have ux2 := blk_free (i := 2) q2
    go_upto_region 2 with fail
    refine wp_world (fun W => W.heap[w.heap.size]? = some (.cells #[.int .i64 n0, .int .i64 n1, .int .i64 n2] 66 (0, 0)) ∧ W.heap[w.heap.size + 1]? = some (.cells #[.int .i64 0, .int .i64 0, .int .i64 0] 66 (0, 0)) ∧ W.heap[x]? = some (.cells #[.int .i64 (ds n0 n1 n2 u v n0 (g0 u v)), .int .i64 (ds n0 n1 n2 u v n1 (g1 u v)), .int .i64 (ds n0 n1 n2 u v n2 (gz u))] 66 (0, 0)) ∧ Below w.heap.size w W) ⟨blk_other _ (blk_other _ (blk_other _ hA0 (by simp; omega)) (by simp; omega)) (by simp; omega), blk_other _ (blk_other _ (blk_other _ hR (by simp; omega)) (by simp; omega)) (by simp; omega), blk_set _ (blk_set _ (blk_set _ q2)), ((hb.setCell (by simp; omega) _).setCell (by simp; omega) _).setCell (by simp; omega) _⟩ ?_
    clear hA0 hR hb q2 x0 x1 x2 ux0 ux1 ux2
    rintro W2 ⟨hA0, hR, hX, hb⟩
    have c0 := blk_cell (i := 0) (v := .int .i64 n0) hA0 rfl
    have c1 := blk_cell (i := 1) (v := .int .i64 n1) hA0 rfl
    have c2 := blk_cell (i := 2) (v := .int .i64 n2) hA0 rfl
    have x0 := blk_cell (i := 0) (v := .int .i64 (ds n0 n1 n2 u v n0 (g0 u v))) hX rfl
    have x1 := blk_cell (i := 1) (v := .int .i64 (ds n0 n1 n2 u v n1 (g1 u v))) hX rfl
    have x2 := blk_cell (i := 2) (v := .int .i64 (ds n0 n1 n2 u v n2 (gz u))) hX rfl
    go_wp2_with fail
    refine (rvdot_any _ _ _ _ _ _ _).mono ?_
    rintro e W3 ⟨rfl, hb1⟩
    have ed : dotS (ds n0 n1 n2 u v n0 (g0 u v)) (ds n0 n1 n2 u v n1 (g1 u v)) (ds n0 n1 n2 u v n2 (gz u)) n0 n1 n2 = dm n0 n1 n2 u v := rfl
    rw [ed]
    clear ed c0 c1 c2 x0 x1 x2
    replace hA0 := heap_below hb1 hA0
    replace hR := heap_below hb1 hR
    replace hX := heap_below hb1 hX
    replace hb := below_then hb1 hb
    clear hb1
    have c0 := blk_cell (i := 0) (v := .int .i64 n0) hA0 rfl
    have c1 := blk_cell (i := 1) (v := .int .i64 n1) hA0 rfl
    have c2 := blk_cell (i := 2) (v := .int .i64 n2) hA0 rfl
    have x0 := blk_cell (i := 0) (v := .int .i64 (ds n0 n1 n2 u v n0 (g0 u v))) hX rfl
    have x1 := blk_cell (i := 1) (v := .int .i64 (ds n0 n1 n2 u v n1 (g1 u v))) hX rfl
    have x2 := blk_cell (i := 2) (v := .int .i64 (ds n0 n1 n2 u v n2 (gz u))) hX rfl
    have r0 := blk_cell (i := 0) (v := .int .i64 0) hR rfl
    have f0 := blk_free (i := 0) hR
    have r1 := blk_cell (i := 1) (v := .int .i64 0) hR rfl
    have f1 := blk_free (i := 1) hR
    have r2 := blk_cell (i := 2) (v := .int .i64 0) hR rfl
    have f2 := blk_free (i := 2) hR
    go_wp2
    refine bodyPost_ret (v := .agg #[.int .i64 n0, .int .i64 n1, .int .i64 n2]) (by simp [results, Try.results38, go_sem, r0, r1, r2]) rfl ⟨rfl, ?_⟩
    exact ((hb.setCell (by simp; try omega) _).setCell (by simp; try omega) _).setCell (by simp; try omega) _

end Go.Proofs.Ytpjgeleglmjkfaa
