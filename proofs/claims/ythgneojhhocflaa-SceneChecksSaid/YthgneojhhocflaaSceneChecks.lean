/- The law SceneChecks: it answers true. No condition. -/
import Derived.Test.YthgneojhhocflaaSceneChk
import Derived.Test.YthgneojhhocflaaSceneChecksT
set_option linter.unusedVariables false
set_option linter.unusedSimpArgs false
namespace Go.Proofs.Ythgneojhhocflaa
open Go.RowKit

theorem lsc_true (x0 x1 x2 x3 x4 x5 x6 x7 x8 x9 x10 x11 x12 : Int) (P T J S : List (List Ct)) (hT : T.length ≤ 9223372036854775807) : lsc_res x0 x1 x2 x3 x4 x5 x6 x7 x8 x9 x10 x11 x12 P T J S = some true := by
  obtain ⟨b, h1, h2, h3⟩ := lsm_ok (P := P) (T := T) (J := J) (S := S) hT
  cases b with
  | false => unfold lsc_res; rw [h1, h2]; rfl
  | true =>
  have hs := h3 rfl
  have hp := hs.p; have ht := hs.t; have hj := hs.j; have hS := hs.s
  have hK : ∀ k, k < T.length → (rd T k 1).rows.length ≤ 1048576 := fun k hk => by have := hs.k k hk; omega
  obtain ⟨a1, a2⟩ := sto_ok (x0 := x0) (x1 := x1) (x2 := x2) (x3 := x3) (x4 := x4) (x5 := x5) (x6 := x6) (x7 := x7) (x8 := x8) (x9 := x9) (x10 := x10) (x11 := x11) (x12 := x12) (P := P) (T := T) (J := J) (S := S) (by omega) (by omega) hK (by omega) (by omega)
  obtain ⟨b1, b2⟩ := sfr_ok (x0 := x0) (x1 := x1) (x2 := x2) (x3 := x3) (x4 := x4) (x5 := x5) (x6 := x6) (x7 := x7) (x8 := x8) (x9 := x9) (x10 := x10) (x11 := x11) (x12 := x12) (P := cP P) (T := cT T) (J := cJ J) (S := cS S) (by rw [cP_length]; omega) (by rw [cT_length]; omega) (fun k hk => by rw [cT_length] at hk; rw [(cT_rd hk).2, cK_length]; exact hK k hk) (by rw [cJ_length]; omega) (by rw [cS_length]; omega)
  obtain ⟨c1, c2, c3⟩ := check_ok (x0 := x0) (x1 := x1) (x2 := x2) (x3 := x3) (x4 := x4) (x5 := x5) (x7 := x7) (x8 := x8) (x9 := x9) (x10 := x10) (x11 := x11) (x12 := x12) (P := P) (T := T) (J := J) (S := S) (by omega) (by omega) (by omega) (by omega)
  obtain ⟨d1, d2⟩ := sam_ok (x0 := x0) (x1 := x1) (x2 := x2) (x3 := x3) (x4 := x4) (x5 := x5) (x6 := x6) (x7 := x7) (x8 := x8) (x9 := x9) (x10 := x10) (x11 := x11) (x12 := x12) (P := P) (T := T) (J := J) (S := S) (by omega) (by omega) hK (by omega) (by omega)
  rw [cT_twice, cP_twice, cJ_twice, cS_twice] at b2
  unfold lsc_res
  simp only [h1, h2, a1, a2, b1, b2, c1, c2, c3, d1, d2, Option.isSome_some, Bool.not_true, cond_true, cond_false, beq_self_eq_true]
theorem lsc_call (x0 x1 x2 x3 x4 x5 x6 x7 x8 x9 x10 x11 x12 : Int) (P T J S : List (List Ct)) (hT : T.length ≤ 9223372036854775807) : CallOk Try.prog 3 [.sv (.agg [.val false (.int .i64 x0), .val false (.int .i64 x1), .val false (.int .i64 x2), .val false (.int .i64 x3), .val false (.int .i64 x4), .val false (.int .i64 x5), .val false (.int .u64 x6), .val false (.int .i64 x7), .val false (.int .i64 x8), .val false (.int .i64 x9), .val false (.int .i64 x10), .val false (.int .i64 x11), .val false (.int .i64 x12), .ext 0, .ext 1, .ext 2, .ext 3])] [(0, .grid [.int .i64, .int .i64, .int .i64, .int .i64, .int .i64] P), (1, .grid [.int .i64, .sl [.int .i64, .int .i64, .int .i64, .int .i64]] T), (2, .grid [.int .i64, .int .i64, .int .i64, .int .i64] J), (3, .grid [.int .i64, .int .i64, .int .i64, .int .i64, .int .i64, .int .i64, .int .i64, .int .i64, .int .i64, .int .i64, .int .i64, .int .i64, .int .i64] S)] 4 (lsc_O true) := lsc_tree (lsc_true x0 x1 x2 x3 x4 x5 x6 x7 x8 x9 x10 x11 x12 P T J S hT)
end Go.Proofs.Ythgneojhhocflaa
