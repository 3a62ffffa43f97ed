/- The law JobChecks: it answers true. No condition. -/
import Derived.Test.YtcpbiijegbbafaaJobAll
import Derived.Test.YtcpbiijegbbafaaJobTotD
import Derived.Test.YtcpbiijegbbafaaOpen
import Derived.Test.YtcpbiijegbbafaaJobChecksT
set_option linter.unusedVariables false
set_option linter.unusedSimpArgs false
namespace Go.Proofs.Ytcpbiijegbbafaa
open Go.RowKit

theorem byt_of {x0 : List (List Ct)} (h : ∀ i, i < x0.length → ∀ (j : Nat) s, [Sh.int IntKind.u8][j]? = some s → CtWf 7 s (rd x0 i j)) : Byt (col x0) := by
  intro y hy
  obtain ⟨i, hi, rfl⟩ := List.getElem_of_mem hy
  rw [col_length] at hi
  have h1 : (Lit.int IntKind.u8 (rd x0 i 0).int).wf = true := h i hi 0 _ rfl
  have e : (col x0)[i]'(by rw [col_length]; exact hi) = (rd x0 i 0).int := by rw [rd_col]; simp [List.getD, col_length, hi]
  rw [e]
  simp [Lit.wf, IntKind.min, IntKind.max, IntKind.bits, IntKind.signed] at h1
  omega

theorem ljc_true (x0 x1 x2 x3 x4 x5 x6 x7 x8 x9 x10 x11 x12 : Int) (P T J S BB : List (List Ct)) (hT : T.length ≤ 9223372036854775807) (hB : Byt (col BB)) : ljc_res x0 x1 x2 x3 x4 x5 x6 x7 x8 x9 x10 x11 x12 P T J S BB = some true := by
  obtain ⟨b, h1, h2, h3⟩ := lsm_ok (P := P) (T := T) (J := J) (S := S) hT
  obtain ⟨j1, j2, j3, j4⟩ := jawake
  cases b with
  | false =>
    unfold ljc_res
    simp only [h1, h2, j1, j2, j3, j4, ljc_c15042849, ljc_c47200340, ljc_c53917619, ljc_c76592794, ljc_c91502572, Option.isSome_some, Bool.not_false, cond_true, beq_self_eq_true]
  | true =>
  have hs := h3 rfl
  have hp := hs.p; have ht := hs.t; have hj := hs.j; have hS := hs.s
  have hK : ∀ k, k < T.length → (rd T k 1).rows.length ≤ 1048576 := fun k hk => by have := hs.k k hk; omega
  obtain ⟨a1, a2⟩ := sto_ok (x0 := x0) (x1 := x1) (x2 := x2) (x3 := x3) (x4 := x4) (x5 := x5) (x6 := x6) (x7 := x7) (x8 := x8) (x9 := x9) (x10 := x10) (x11 := x11) (x12 := x12) (P := P) (T := T) (J := J) (S := S) (by omega) (by omega) hK (by omega) (by omega)
  obtain ⟨c1, c2, c3⟩ := check_ok (x0 := x0) (x1 := x1) (x2 := x2) (x3 := x3) (x4 := x4) (x5 := x5) (x7 := x7) (x8 := x8) (x9 := x9) (x10 := x10) (x11 := x11) (x12 := x12) (P := P) (T := T) (J := J) (S := S) (by omega) (by omega) (by omega) (by omega)
  obtain ⟨p1, p2⟩ := jen_is (x0 := x0) (x1 := x1) (x2 := x2) (x3 := x3) (x4 := x4) (x5 := x5) (x6 := x6) (x7 := x7) (x8 := x8) (x9 := x9) (x10 := x10) (x11 := x11) (x12 := x12) hs
  obtain ⟨y0, y1, y2, y3, y4, y5, y6, y7, y8, y9, y10, y11, y12, err, P', T', J', S', ⟨g1, g2⟩, hor⟩ := parse_t hB
  have tail : ∀ (o : Option Bool) (u : Int) (w : List (List Ct)), o = some true → o = some true := fun o u w h => h
  obtain ⟨u, w, e1, e2, e3⟩ : ∃ u w, jen_res x0 x1 x2 x3 x4 x5 x6 x7 x8 x9 x10 x11 x12 (cP P) (cT T) (cJ J) (cS S) = some (u, w) ∧ u = (sch_v x0 x1 x2 x3 x4 x5 x7 x8 x9 x10 x11 x12 (cP P) (cT T) (cJ J) (cS S)).1 ∧ ((u == 0) == decide ((w.length : Int) > 0)) = true := by
    by_cases hc : (sch_v x0 x1 x2 x3 x4 x5 x7 x8 x9 x10 x11 x12 (cP P) (cT T) (cJ J) (cS S)).1 = 0
    · obtain ⟨w, e1, e2, e3⟩ := p2 hc
      refine ⟨0, w, e1, hc.symm, ?_⟩
      have hw : w.length > 0 := by
        rw [← col_length, e2]
        simp only [bScene, bM, List.length_append, List.length_cons]
        omega
      rw [decide_eq_true (by omega)]; rfl
    · refine ⟨_, [], p1 hc, rfl, ?_⟩
      have : ((sch_v x0 x1 x2 x3 x4 x5 x7 x8 x9 x10 x11 x12 (cP P) (cT T) (cJ J) (cS S)).1 == 0) = false := by simpa using hc
      rw [this]; rfl
  have e4 : jen_v x0 x1 x2 x3 x4 x5 x6 x7 x8 x9 x10 x11 x12 (cP P) (cT T) (cJ J) (cS S) = (u, w) := by unfold jen_v; rw [e1]; rfl
  have e5 : ((sch_v x0 x1 x2 x3 x4 x5 x7 x8 x9 x10 x11 x12 (cP P) (cT T) (cJ J) (cS S)).1 != (sch_v x0 x1 x2 x3 x4 x5 x7 x8 x9 x10 x11 x12 (cP P) (cT T) (cJ J) (cS S)).1) = false := by simp
  rcases hor with ⟨he, rfl, rfl, rfl⟩ | ⟨rfl, hV, hz, _⟩
  · have hb : (err != 0) = true := by simpa using he
    unfold ljc_res
    simp only [h1, h2, j1, j2, j3, j4, ljc_c15042849, ljc_c47200340, ljc_c53917619, ljc_c76592794, ljc_c91502572, a1, a2, c1, e1, e4, e3, g1, g2, hb, Option.isSome_some, Bool.not_true, cond_true, cond_false, beq_self_eq_true]
    rw [e2, e5]
    rfl
  · have hch := hV.chk
    unfold ljc_res
    simp only [h1, h2, j1, j2, j3, j4, ljc_c15042849, ljc_c47200340, ljc_c53917619, ljc_c76592794, ljc_c91502572, a1, a2, c1, e1, e4, e3, g1, g2, hch, hz, Option.isSome_some, Bool.not_true, cond_true, cond_false, beq_self_eq_true, bne_self_eq_false]
    rw [e2, e5]
    rfl
theorem ljc_call (x0_0 x0_1 x0_2 x0_3 x0_4 x0_5 x0_6 x0_7 x0_8 x0_9 x0_10 x0_11 x0_12 : Int) (x0_13 x0_14 x0_15 x0_16 x1 : List (List Ct)) (hT : (x0_14 : List (List Ct)).length ≤ 9223372036854775807) (hW : ∀ i, i < x1.length → ∀ (j : Nat) s, [Sh.int IntKind.u8][j]? = some s → CtWf 7 s (rd x1 i j)) : CallOk Try.prog 6 [.sv (.agg [.val false (.int .i64 x0_0), .val false (.int .i64 x0_1), .val false (.int .i64 x0_2), .val false (.int .i64 x0_3), .val false (.int .i64 x0_4), .val false (.int .i64 x0_5), .val false (.int .u64 x0_6), .val false (.int .i64 x0_7), .val false (.int .i64 x0_8), .val false (.int .i64 x0_9), .val false (.int .i64 x0_10), .val false (.int .i64 x0_11), .val false (.int .i64 x0_12), .ext 0, .ext 1, .ext 2, .ext 3]), .sv (.one (.ext 4))] [(0, .grid [.int .i64, .int .i64, .int .i64, .int .i64, .int .i64] x0_13), (1, .grid [.int .i64, .sl [.int .i64, .int .i64, .int .i64, .int .i64]] x0_14), (2, .grid [.int .i64, .int .i64, .int .i64, .int .i64] x0_15), (3, .grid [.int .i64, .int .i64, .int .i64, .int .i64, .int .i64, .int .i64, .int .i64, .int .i64, .int .i64, .int .i64, .int .i64, .int .i64, .int .i64] x0_16), (4, .grid [.int .u8] x1)] 5 (ljc_O true) :=
  ljc_tree (ljc_true x0_0 x0_1 x0_2 x0_3 x0_4 x0_5 x0_6 x0_7 x0_8 x0_9 x0_10 x0_11 x0_12 x0_13 x0_14 x0_15 x0_16 x1 hT (byt_of hW))
end Go.Proofs.Ytcpbiijegbbafaa
