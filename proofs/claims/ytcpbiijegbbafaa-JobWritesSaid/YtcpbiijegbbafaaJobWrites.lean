/- The law JobWrites: it answers true. No condition. -/
import Derived.Test.YtcpbiijegbbafaaJobAll
import Derived.Test.YtcpbiijegbbafaaJobWD
import Derived.Test.YtcpbiijegbbafaaJobWritesT
set_option linter.unusedVariables false
set_option linter.unusedSimpArgs false
namespace Go.Proofs.Ytcpbiijegbbafaa
open Go.RowKit

theorem ren_is {x0 x1 x2 x3 x4 x5 x6 x7 x8 x9 x10 x11 x12 : Int} {P T J S : List (List Ct)} (h6 : 0 ≤ x6 ∧ x6 < 18446744073709551616) (hs : SmallT P T J S) :
    ((sch_v x0 x1 x2 x3 x4 x5 x7 x8 x9 x10 x11 x12 (cP P) (cT T) (cJ J) (cS S)).1 ≠ 0 → ren_res x0 x1 x2 x3 x4 x5 x6 x7 x8 x9 x10 x11 x12 P T J S = some ((sch_v x0 x1 x2 x3 x4 x5 x7 x8 x9 x10 x11 x12 (cP P) (cT T) (cJ J) (cS S)).1, [])) ∧
    ((sch_v x0 x1 x2 x3 x4 x5 x7 x8 x9 x10 x11 x12 (cP P) (cT T) (cJ J) (cS S)).1 = 0 → ∃ u, ren_res x0 x1 x2 x3 x4 x5 x6 x7 x8 x9 x10 x11 x12 P T J S = some (0, u) ∧ col u = bScene x0 x1 x2 x3 x4 x5 x6 x7 x8 x9 x10 x11 x12 P T J S) := by
  have hp := hs.p; have ht := hs.t; have hj := hs.j; have hS := hs.s
  obtain ⟨c1, c2, c3⟩ := check_ok (x0 := x0) (x1 := x1) (x2 := x2) (x3 := x3) (x4 := x4) (x5 := x5) (x7 := x7) (x8 := x8) (x9 := x9) (x10 := x10) (x11 := x11) (x12 := x12) (P := P) (T := T) (J := J) (S := S) (by omega) (by omega) (by omega) (by omega)
  refine ⟨fun h => ?_, fun h => ?_⟩
  · have hb : ((sch_v x0 x1 x2 x3 x4 x5 x7 x8 x9 x10 x11 x12 (cP P) (cT T) (cJ J) (cS S)).1 != 0) = true := by simpa using h
    unfold ren_res
    rw [c2, c3, c1, hb]; rfl
  · obtain ⟨u, h1, h2, h3, h4⟩ := ren_ok (x0 := x0) (x1 := x1) (x2 := x2) (x3 := x3) (x4 := x4) (x5 := x5) (x6 := x6) (x7 := x7) (x8 := x8) (x9 := x9) (x10 := x10) (x11 := x11) (x12 := x12) (P := P) (T := T) (J := J) (S := S) h6 (by omega) (by omega) (fun k hk => by have := hs.k k hk; omega) (by omega) (by omega) (by rw [c2]; exact c1) (by rw [c3]; exact h)
    obtain ⟨u1, u2⟩ := u
    subst h2
    exact ⟨u2, h1, h3⟩
theorem ljw_true (x0 x1 x2 x3 x4 x5 x6 x7 x8 x9 x10 x11 x12 : Int) (P T J S : List (List Ct)) (hT : T.length ≤ 9223372036854775807) (h6 : 0 ≤ x6 ∧ x6 < 18446744073709551616) : ljw_res x0 x1 x2 x3 x4 x5 x6 x7 x8 x9 x10 x11 x12 P T J S = some true := by
  obtain ⟨b, h1, h2, h3⟩ := lsm_ok (P := P) (T := T) (J := J) (S := S) hT
  obtain ⟨j1, j2, j3, j4⟩ := jawake
  cases b with
  | false =>
    unfold ljw_res
    simp only [h1, h2, j1, j2, j3, j4, ljw_c15042849, ljw_c53917619, ljw_c91502572, Option.isSome_some, Bool.not_false, cond_true, beq_self_eq_true]
  | true =>
  have hs := h3 rfl
  have hp := hs.p; have ht := hs.t; have hj := hs.j; have hS := hs.s
  have hK : ∀ k, k < T.length → (rd T k 1).rows.length ≤ 1048576 := fun k hk => by have := hs.k k hk; omega
  obtain ⟨a1, a2⟩ := sto_ok (x0 := x0) (x1 := x1) (x2 := x2) (x3 := x3) (x4 := x4) (x5 := x5) (x6 := x6) (x7 := x7) (x8 := x8) (x9 := x9) (x10 := x10) (x11 := x11) (x12 := x12) (P := P) (T := T) (J := J) (S := S) (by omega) (by omega) hK (by omega) (by omega)
  obtain ⟨p1, p2⟩ := jen_is (x0 := x0) (x1 := x1) (x2 := x2) (x3 := x3) (x4 := x4) (x5 := x5) (x6 := x6) (x7 := x7) (x8 := x8) (x9 := x9) (x10 := x10) (x11 := x11) (x12 := x12) hs
  obtain ⟨q1, q2⟩ := ren_is (x0 := x0) (x1 := x1) (x2 := x2) (x3 := x3) (x4 := x4) (x5 := x5) (x6 := x6) (x7 := x7) (x8 := x8) (x9 := x9) (x10 := x10) (x11 := x11) (x12 := x12) h6 hs
  by_cases hc : (sch_v x0 x1 x2 x3 x4 x5 x7 x8 x9 x10 x11 x12 (cP P) (cT T) (cJ J) (cS S)).1 = 0
  · obtain ⟨u, e1, e2, e3⟩ := p2 hc
    obtain ⟨w, f1, f2⟩ := q2 hc
    have g1 : jen_v x0 x1 x2 x3 x4 x5 x6 x7 x8 x9 x10 x11 x12 (cP P) (cT T) (cJ J) (cS S) = (0, u) := by unfold jen_v; rw [e1]; rfl
    have g2 : ren_v x0 x1 x2 x3 x4 x5 x6 x7 x8 x9 x10 x11 x12 P T J S = (0, w) := by unfold ren_v; rw [f1]; rfl
    have hst : strOf u = strOf w := strOf_col (by rw [e2, f2])
    unfold ljw_res
    simp only [h1, h2, j1, j2, j3, j4, ljw_c15042849, ljw_c53917619, ljw_c91502572, a1, a2, e1, f1, g1, g2, hst, Option.isSome_some, Bool.not_true, cond_true, cond_false, beq_self_eq_true]
  · have e1 := p1 hc
    have f1 := q1 hc
    have g1 : jen_v x0 x1 x2 x3 x4 x5 x6 x7 x8 x9 x10 x11 x12 (cP P) (cT T) (cJ J) (cS S) = ((sch_v x0 x1 x2 x3 x4 x5 x7 x8 x9 x10 x11 x12 (cP P) (cT T) (cJ J) (cS S)).1, []) := by unfold jen_v; rw [e1]; rfl
    have g2 : ren_v x0 x1 x2 x3 x4 x5 x6 x7 x8 x9 x10 x11 x12 P T J S = ((sch_v x0 x1 x2 x3 x4 x5 x7 x8 x9 x10 x11 x12 (cP P) (cT T) (cJ J) (cS S)).1, []) := by unfold ren_v; rw [f1]; rfl
    unfold ljw_res
    simp only [h1, h2, j1, j2, j3, j4, ljw_c15042849, ljw_c53917619, ljw_c91502572, a1, a2, e1, f1, g1, g2, Option.isSome_some, Bool.not_true, cond_true, cond_false, beq_self_eq_true]
theorem ljw_call (x0_0 : Int) (x0_1 : Int) (x0_2 : Int) (x0_3 : Int) (x0_4 : Int) (x0_5 : Int) (x0_6 : Int) (x0_7 : Int) (x0_8 : Int) (x0_9 : Int) (x0_10 : Int) (x0_11 : Int) (x0_12 : Int) (x0_13 : List (List Ct)) (x0_14 : List (List Ct)) (x0_15 : List (List Ct)) (x0_16 : List (List Ct)) (hT : (x0_14 : List (List Ct)).length ≤ 9223372036854775807) (h6 : (Lit.int .u64 x0_6).wf = true) : CallOk Try.prog 4 [.sv (.agg [.val false (.int .i64 x0_0), .val false (.int .i64 x0_1), .val false (.int .i64 x0_2), .val false (.int .i64 x0_3), .val false (.int .i64 x0_4), .val false (.int .i64 x0_5), .val false (.int .u64 x0_6), .val false (.int .i64 x0_7), .val false (.int .i64 x0_8), .val false (.int .i64 x0_9), .val false (.int .i64 x0_10), .val false (.int .i64 x0_11), .val false (.int .i64 x0_12), .ext 0, .ext 1, .ext 2, .ext 3])] [(0, .grid [.int .i64, .int .i64, .int .i64, .int .i64, .int .i64] x0_13), (1, .grid [.int .i64, .sl [.int .i64, .int .i64, .int .i64, .int .i64]] x0_14), (2, .grid [.int .i64, .int .i64, .int .i64, .int .i64] x0_15), (3, .grid [.int .i64, .int .i64, .int .i64, .int .i64, .int .i64, .int .i64, .int .i64, .int .i64, .int .i64, .int .i64, .int .i64, .int .i64, .int .i64] x0_16)] 4 (ljw_O true) :=
  ljw_tree (ljw_true x0_0 x0_1 x0_2 x0_3 x0_4 x0_5 x0_6 x0_7 x0_8 x0_9 x0_10 x0_11 x0_12 x0_13 x0_14 x0_15 x0_16 hT (u64_wf h6))
end Go.Proofs.Ytcpbiijegbbafaa
