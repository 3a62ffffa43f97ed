/- The law SceneTells in plain numbers. No condition. -/
import Derived.Test.YthgneojhhocflaaSceneChk
import Derived.Test.YthgneojhhocflaaSceneTellsT
set_option linter.unusedVariables false
set_option linter.unusedSimpArgs false
namespace Go.Proofs.Ythgneojhhocflaa
open Go.RowKit

theorem lst_true (x0 x1 x2 x3 x4 x5 x6 x7 x8 x9 x10 x11 x12 : Int) (P T J S : List (List Ct)) (y : Int) (hT : T.length ≤ 9223372036854775807) : lst_res x0 x1 x2 x3 x4 x5 x6 x7 x8 x9 x10 x11 x12 P T J S y = some true := by
  obtain ⟨b, h1, h2, h3⟩ := lsm_ok (P := P) (T := T) (J := J) (S := S) hT
  cases b with
  | false => unfold lst_res; rw [h1, h2]; rfl
  | true =>
  have hs := h3 rfl
  have hp := hs.p; have ht := hs.t; have hj := hs.j; have hS := hs.s
  have hK : ∀ k, k < T.length → (rd T k 1).rows.length ≤ 1048576 := fun k hk => by have := hs.k k hk; omega
  obtain ⟨a1, a2⟩ := sto_ok (x0 := x0) (x1 := x1) (x2 := x2) (x3 := x3) (x4 := x4) (x5 := x5) (x6 := x6) (x7 := x7) (x8 := x8) (x9 := x9) (x10 := x10) (x11 := x11) (x12 := x12) (P := P) (T := T) (J := J) (S := S) (by omega) (by omega) hK (by omega) (by omega)
  obtain ⟨l1, l2⟩ := sla_ok (P := P) (S := S) (by omega) (by omega)
  obtain ⟨l3, l4⟩ := rla_ok (P := P) (S := S) (by omega) (by omega)
  obtain ⟨s1, s2, s3⟩ := @shr_ok x0 x1 x2 x3 x4 x5 x7 x8 x9
  have hF : (filtR (glows P S) S.length).length ≤ S.length := filtR_length
  obtain ⟨r, i1, i2⟩ := iter_chk (step := lst_L0_step x0 x1 x2 x3 x4 x5 x6 x7 x8 x9 x10 x11 x12 P T J S) (n := (filtR (glows P S) S.length).length) (m := S.length + 1) (c := fun _ => True) (fun k hk => ⟨fun _ => by
    have q : (k : Int) < ((filtR (glows P S) S.length).length : Int) := by omega
    have q2 : (0 : Int) ≤ (k : Int) ∧ (k : Int) < ((filtR (glows P S) S.length).length : Int) := by omega
    simp only [lst_L0_step, a2, l2, l4, cond_dec q, cond_dec q2, Int.toNat_natCast, bne_self_eq_false, cond_false, wrap_succ (k := k) (by omega)]
    rfl, fun h => absurd trivial h⟩) (by
    have q : ¬ (((filtR (glows P S) S.length).length : Int) < ((filtR (glows P S) S.length).length : Int)) := by omega
    simp only [lst_L0_step, a2, l2, cond_not q]) (by omega)
  have p1 : lst_L0_p x0 x1 x2 x3 x4 x5 x6 x7 x8 x9 x10 x11 x12 P T J S = true := by unfold lst_L0_p; rw [i1]; rfl
  have p2 : isL (lst_L0_v x0 x1 x2 x3 x4 x5 x6 x7 x8 x9 x10 x11 x12 P T J S) = true := by unfold lst_L0_v; rw [i1]; exact i2.2 fun _ _ => trivial
  obtain ⟨r', j1, j2⟩ := iter_chk (step := lst_L2_step x0 x1 x2 x3 x4 x5 x6 x7 x8 x9 x10 x11 x12 P T J S) (n := S.length) (m := S.length + 1) (c := fun _ => True) (fun k hk => ⟨fun _ => by
    have q : (k : Int) < (S.length : Int) := by omega
    have q2 : (0 : Int) ≤ (k : Int) ∧ (k : Int) < (S.length : Int) := by omega
    obtain ⟨e0, _⟩ := cS_rd hk
    have e1 : ∀ b : Bool, (!(b == b)) = false := fun b => by cases b <;> rfl
    simp only [lst_L2_step, a2, cS_length, cond_dec q, cond_dec q2, Int.toNat_natCast, e0, beq_self_eq_true, bne_self_eq_false, Bool.not_true, Bool.and_self, cond_false, wrap_succ (k := k) (by omega)]
    cases ((rd (cS S) k 2).int == 0) <;> rfl, fun h => absurd trivial h⟩) (by
    have q : ¬ ((S.length : Int) < (S.length : Int)) := by omega
    simp only [lst_L2_step, a2, cS_length, cond_not q]) (by omega)
  have p3 : lst_L2_p x0 x1 x2 x3 x4 x5 x6 x7 x8 x9 x10 x11 x12 P T J S = true := by unfold lst_L2_p; rw [j1]; rfl
  have p4 : isL (lst_L2_v x0 x1 x2 x3 x4 x5 x6 x7 x8 x9 x10 x11 x12 P T J S) = true := by unfold lst_L2_v; rw [j1]; exact j2.2 fun _ _ => trivial
  unfold lst_res
  simp only [h1, h2, a1, a2, l1, l2, l3, l4, s1, s2, s3, p1, p2, p3, p4, Option.isSome_some, Bool.not_true, cond_true, cond_false, beq_self_eq_true, bne_self_eq_false]
  simp only [cond_same]
theorem lst_call (x0 x1 x2 x3 x4 x5 x6 x7 x8 x9 x10 x11 x12 : Int) (P T J S : List (List Ct)) (y : Int) (hT : T.length ≤ 9223372036854775807) : CallOk Try.prog 5 [.sv (.agg [.val false (.int .i64 x0), .val false (.int .i64 x1), .val false (.int .i64 x2), .val false (.int .i64 x3), .val false (.int .i64 x4), .val false (.int .i64 x5), .val false (.int .u64 x6), .val false (.int .i64 x7), .val false (.int .i64 x8), .val false (.int .i64 x9), .val false (.int .i64 x10), .val false (.int .i64 x11), .val false (.int .i64 x12), .ext 0, .ext 1, .ext 2, .ext 3]), .sv (.one (.val false (.int .i64 y)))] [(0, .grid [.int .i64, .int .i64, .int .i64, .int .i64, .int .i64] P), (1, .grid [.int .i64, .sl [.int .i64, .int .i64, .int .i64, .int .i64]] T), (2, .grid [.int .i64, .int .i64, .int .i64, .int .i64] J), (3, .grid [.int .i64, .int .i64, .int .i64, .int .i64, .int .i64, .int .i64, .int .i64, .int .i64, .int .i64, .int .i64, .int .i64, .int .i64, .int .i64] S)] 4 (lst_O true) := lst_tree (lst_true x0 x1 x2 x3 x4 x5 x6 x7 x8 x9 x10 x11 x12 P T J S y hT)
end Go.Proofs.Ythgneojhhocflaa
