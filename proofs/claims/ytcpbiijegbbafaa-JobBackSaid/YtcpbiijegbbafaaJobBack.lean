/- The law JobBack: it answers true. No condition. -/
import Derived.Test.YtcpbiijegbbafaaJobAll
import Derived.Test.YtcpbiijegbbafaaJobValid
import Derived.Test.YtcpbiijegbbafaaSceneLawF
import Derived.Test.YtcpbiijegbbafaaOpen
import Derived.Test.YtcpbiijegbbafaaJobBackT
set_option linter.unusedVariables false
set_option linter.unusedSimpArgs false
namespace Go.Proofs.Ytcpbiijegbbafaa
open Go.RowKit

theorem byt_of {x0 : List (List Ct)} (h : ∀ i, i < x0.length → ∀ (j : Nat) s, [Sh.int IntKind.u8][j]? = some s → CtWf 7 s (rd x0 i j)) : Byt (col x0) := by
  intro y hy
  obtain ⟨i, hi, rfl⟩ := List.getElem_of_mem hy
  rw [col_length] at hi
  have h1 : (Lit.int IntKind.u8 (rd x0 i 0).int).wf = true := h i hi 0 _ rfl
  have e : (col x0)[i]'(by rw [col_length]; exact hi) = (rd x0 i 0).int := by rw [rd_col]; simp [List.getD, col_length, hi]
  rw [e]
  simp [Lit.wf, IntKind.min, IntKind.max, IntKind.bits, IntKind.signed] at h1
  omega

theorem ljb_true (x0 x1 x2 x3 x4 x5 x6 x7 x8 x9 x10 x11 x12 : Int) (P T J S BB : List (List Ct)) (hT : T.length ≤ 9223372036854775807) (h6 : 0 ≤ x6 ∧ x6 < 18446744073709551616) (hB : Byt (col BB)) : ljb_res x0 x1 x2 x3 x4 x5 x6 x7 x8 x9 x10 x11 x12 P T J S BB = some true := by
  obtain ⟨b, h1, h2, h3⟩ := lsm_ok (P := P) (T := T) (J := J) (S := S) hT
  obtain ⟨j1, j2, j3, j4⟩ := jawake
  cases b with
  | false =>
    unfold ljb_res
    simp only [h1, h2, j1, j2, j3, j4, ljb_c12998949, ljb_c15042849, ljb_c31407933, ljb_c5350920, ljb_c53917619, ljb_c68263014, ljb_c91502572, Option.isSome_some, Bool.not_false, cond_true, beq_self_eq_true]
  | true =>
  have hs := h3 rfl
  have hp := hs.p; have ht := hs.t; have hj := hs.j; have hS := hs.s
  have hK : ∀ k, k < T.length → (rd T k 1).rows.length ≤ 1048576 := fun k hk => by have := hs.k k hk; omega
  obtain ⟨a1, a2⟩ := sto_ok (x0 := x0) (x1 := x1) (x2 := x2) (x3 := x3) (x4 := x4) (x5 := x5) (x6 := x6) (x7 := x7) (x8 := x8) (x9 := x9) (x10 := x10) (x11 := x11) (x12 := x12) (P := P) (T := T) (J := J) (S := S) (by omega) (by omega) hK (by omega) (by omega)
  obtain ⟨p1, p2⟩ := jen_is (x0 := x0) (x1 := x1) (x2 := x2) (x3 := x3) (x4 := x4) (x5 := x5) (x6 := x6) (x7 := x7) (x8 := x8) (x9 := x9) (x10 := x10) (x11 := x11) (x12 := x12) hs
  obtain ⟨y0, y1, y2, y3, y4, y5, y6, y7, y8, y9, y10, y11, y12, err, P', T', J', S', ⟨g1, g2⟩, hor⟩ := parse_t hB
  -- the bytes: what is parsed is encoded by the very bytes
  have half : err = 0 → ∃ w, jen_res y0 y1 y2 y3 y4 y5 y6 y7 y8 y9 y10 y11 y12 P' T' J' S' = some (0, w) ∧ jen_v y0 y1 y2 y3 y4 y5 y6 y7 y8 y9 y10 y11 y12 P' T' J' S' = (0, w) ∧ strOf w = strOf BB := by
    intro he
    rcases hor with ⟨h, _⟩ | ⟨_, hV, hz, hc⟩
    · exact absurd he h
    · have hpl := hV.pl; have htl := hV.tl; have hjl := hV.jl; have hsl := hV.sl
      obtain ⟨u, k1, k2, k3, k4⟩ := jen_ok (x0 := y0) (x1 := y1) (x2 := y2) (x3 := y3) (x4 := y4) (x5 := y5) (x6 := y6) (x7 := y7) (x8 := y8) (x9 := y9) (x10 := y10) (x11 := y11) (x12 := y12) (P := P') (T := T') (J := J') (S := S') (by omega) (by omega) (fun k hk => by have := few_of hV.t k hk; omega) (by omega) (by omega) hV.chk hz
      obtain ⟨u1, u2⟩ := u
      subst k2
      exact ⟨u2, k1, by unfold jen_v; rw [k1]; rfl, strOf_col (by rw [k3, hc])⟩
  by_cases hc : (sch_v x0 x1 x2 x3 x4 x5 x7 x8 x9 x10 x11 x12 (cP P) (cT T) (cJ J) (cS S)).1 = 0
  · obtain ⟨u, e1, e2, e3⟩ := p2 hc
    have e4 : jen_v x0 x1 x2 x3 x4 x5 x6 x7 x8 x9 x10 x11 x12 (cP P) (cT T) (cJ J) (cS S) = (0, u) := by unfold jen_v; rw [e1]; rfl
    have hV := valid_of h6 (by omega) (by omega) (by omega) (by omega) hc
    have e5 : col u = bScene x0 x1 x2 x3 x4 x5 x6 x7 x8 x9 x10 x11 x12 (cP P) (cT T) (cJ J) (cS S) := by rw [e2, bScene_c]
    have hlen := scene_len hV
    obtain ⟨m1, m2⟩ := parse_f (B := u) (by rw [e5]; exact byt_scene) (by rw [← col_length, e5]; exact hlen) hV hc e5
    have n1 := m1
    have n2 := m2
    have hK' : ∀ k, k < (cT T).length → (rd (cT T) k 1).rows.length ≤ 1048576 := fun k hk => by
      rw [cT_length] at hk
      rw [(cT_rd hk).2, cK_length]
      exact hK k hk
    obtain ⟨b1, b2⟩ := sfr_ok (x0 := x0) (x1 := x1) (x2 := x2) (x3 := x3) (x4 := x4) (x5 := x5) (x6 := x6) (x7 := x7) (x8 := x8) (x9 := x9) (x10 := x10) (x11 := x11) (x12 := x12) (P := cP P) (T := cT T) (J := cJ J) (S := cS S) (by rw [cP_length]; omega) (by rw [cT_length]; omega) hK' (by rw [cJ_length]; omega) (by rw [cS_length]; omega)
    obtain ⟨d1, d2⟩ := sam_ok (x0 := x0) (x1 := x1) (x2 := x2) (x3 := x3) (x4 := x4) (x5 := x5) (x6 := x6) (x7 := x7) (x8 := x8) (x9 := x9) (x10 := x10) (x11 := x11) (x12 := x12) (P := P) (T := T) (J := J) (S := S) (by omega) (by omega) hK (by omega) (by omega)
    rw [cT_twice, cP_twice, cJ_twice, cS_twice] at b2
    by_cases he : err = 0
    · obtain ⟨w, k1, k2, k3⟩ := half he
      subst he
      unfold ljb_res
      simp only [h1, h2, j1, j2, j3, j4, ljb_c12998949, ljb_c15042849, ljb_c31407933, ljb_c5350920, ljb_c53917619, ljb_c68263014, ljb_c91502572, a1, a2, e1, e4, n1, n2, b1, b2, d1, d2, g1, g2, k1, k2, k3, Option.isSome_some, Bool.not_true, cond_true, cond_false, beq_self_eq_true, bne_self_eq_false]
    · have hb : (err == 0) = false := by simpa using he
      unfold ljb_res
      simp only [h1, h2, j1, j2, j3, j4, ljb_c12998949, ljb_c15042849, ljb_c31407933, ljb_c5350920, ljb_c53917619, ljb_c68263014, ljb_c91502572, a1, a2, e1, e4, n1, n2, b1, b2, d1, d2, g1, g2, hb, Option.isSome_some, Bool.not_true, cond_true, cond_false, beq_self_eq_true, bne_self_eq_false]
  · have e1 := p1 hc
    have e4 : jen_v x0 x1 x2 x3 x4 x5 x6 x7 x8 x9 x10 x11 x12 (cP P) (cT T) (cJ J) (cS S) = ((sch_v x0 x1 x2 x3 x4 x5 x7 x8 x9 x10 x11 x12 (cP P) (cT T) (cJ J) (cS S)).1, []) := by unfold jen_v; rw [e1]; rfl
    have hcb : ((sch_v x0 x1 x2 x3 x4 x5 x7 x8 x9 x10 x11 x12 (cP P) (cT T) (cJ J) (cS S)).1 == 0) = false := by simpa using hc
    by_cases he : err = 0
    · obtain ⟨w, k1, k2, k3⟩ := half he
      subst he
      unfold ljb_res
      simp only [h1, h2, j1, j2, j3, j4, ljb_c12998949, ljb_c15042849, ljb_c31407933, ljb_c5350920, ljb_c53917619, ljb_c68263014, ljb_c91502572, a1, a2, e1, e4, hcb, g1, g2, k1, k2, k3, Option.isSome_some, Bool.not_true, cond_true, cond_false, beq_self_eq_true, bne_self_eq_false]
    · have hb : (err == 0) = false := by simpa using he
      unfold ljb_res
      simp only [h1, h2, j1, j2, j3, j4, ljb_c12998949, ljb_c15042849, ljb_c31407933, ljb_c5350920, ljb_c53917619, ljb_c68263014, ljb_c91502572, a1, a2, e1, e4, hcb, g1, g2, hb, Option.isSome_some, Bool.not_true, cond_true, cond_false, beq_self_eq_true, bne_self_eq_false]
theorem ljb_call (x0_0 x0_1 x0_2 x0_3 x0_4 x0_5 x0_6 x0_7 x0_8 x0_9 x0_10 x0_11 x0_12 : Int) (x0_13 x0_14 x0_15 x0_16 x1 : List (List Ct)) (hT : (x0_14 : List (List Ct)).length ≤ 9223372036854775807) (h6 : (Lit.int .u64 x0_6).wf = true) (hW : ∀ i, i < x1.length → ∀ (j : Nat) s, [Sh.int IntKind.u8][j]? = some s → CtWf 7 s (rd x1 i j)) : CallOk Try.prog 5 [.sv (.agg [.val false (.int .i64 x0_0), .val false (.int .i64 x0_1), .val false (.int .i64 x0_2), .val false (.int .i64 x0_3), .val false (.int .i64 x0_4), .val false (.int .i64 x0_5), .val false (.int .u64 x0_6), .val false (.int .i64 x0_7), .val false (.int .i64 x0_8), .val false (.int .i64 x0_9), .val false (.int .i64 x0_10), .val false (.int .i64 x0_11), .val false (.int .i64 x0_12), .ext 0, .ext 1, .ext 2, .ext 3]), .sv (.one (.ext 4))] [(0, .grid [.int .i64, .int .i64, .int .i64, .int .i64, .int .i64] x0_13), (1, .grid [.int .i64, .sl [.int .i64, .int .i64, .int .i64, .int .i64]] x0_14), (2, .grid [.int .i64, .int .i64, .int .i64, .int .i64] x0_15), (3, .grid [.int .i64, .int .i64, .int .i64, .int .i64, .int .i64, .int .i64, .int .i64, .int .i64, .int .i64, .int .i64, .int .i64, .int .i64, .int .i64] x0_16), (4, .grid [.int .u8] x1)] 5 (ljb_O true) :=
  ljb_tree (ljb_true x0_0 x0_1 x0_2 x0_3 x0_4 x0_5 x0_6 x0_7 x0_8 x0_9 x0_10 x0_11 x0_12 x0_13 x0_14 x0_15 x0_16 x1 hT (u64_wf h6) (byt_of hW))
end Go.Proofs.Ytcpbiijegbbafaa
