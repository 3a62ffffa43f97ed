/- The law DiceGoes: it answers true for all values whose seed is one of 64 bits. No other condition. -/
import Derived.Test.YtkbhnomgkmeojaaDiceGoesT
set_option linter.unusedVariables false
set_option linter.unusedSimpArgs false
namespace Go.Proofs.Ytkbhnomgkmeojaa
open Go.RowKit

theorem ldg_round (x0_0 x0_1 x0_2 x0_3 : Int) (x1 : List (List Ct)) (hw : (Lit.int IntKind.u64 x0_0).wf = true) (hl : x1.length ≤ 9223372036854775807) {k : Nat} (hk : k < x1.length) {a : Int} (h0 : 0 ≤ a) (h1 : a ≤ 1099511627777) :
    (∃ v, ldg_L0_step x0_0 x0_1 x0_2 x0_3 x1 (a, (k : Int), a, a) = some (.inr (.inl v))) ∨ ∃ b, 0 ≤ b ∧ b ≤ 1099511627777 ∧ ldg_L0_step x0_0 x0_1 x0_2 x0_3 x1 (a, (k : Int), a, a) = some (.inl (b, ((k + 1 : Nat) : Int), b, b)) := by
  have wk : IntKind.i64.wrap ((k : Int) + 1) = (k : Int) + 1 := wrap_in (by omega) (by omega)
  have ww : ∀ b : Int, 0 ≤ b → b ≤ 1099511627777 → IntKind.i64.wrap (b + 1) = b + 1 ∧ IntKind.i64.wrap (IntKind.i64.wrap (b + 1) - 1) = b := fun b b0 b1 => by
    have e : IntKind.i64.wrap (b + 1) = b + 1 := wrap_in (by omega) (by omega)
    exact ⟨e, by rw [e, Int.add_sub_cancel]; exact wrap_in (by omega) (by omega)⟩
  have c1 : decide ((k : Int) < (x1.length : Int)) = true := decide_eq_true (by omega)
  have c2 : decide ((0 : Int) ≤ (k : Int) ∧ (k : Int) < (x1.length : Int)) = true := decide_eq_true (by omega)
  have c6 : ∀ b : Int, (b != b) = false := fun b => bne_self_eq_false b
  unfold ldg_L0_step
  generalize unitS x0_0 x0_1 x0_2 x0_3 = U
  dsimp only
  by_cases k60 : (k : Int) ≥ (60 : Int)
  · have c3 : decide ((k : Int) ≥ (60 : Int)) = true := decide_eq_true k60
    exact .inl ⟨(a, (k : Int), a, a), by rw [c1, c2, c3]; rfl⟩
  have c3 : decide ((k : Int) ≥ (60 : Int)) = false := decide_eq_false k60
  obtain ⟨wa, wb⟩ := ww a h0 h1
  by_cases m3 : (rd x1 (k : Int).toNat 0).int.tmod (3 : Int) = 0
  case neg =>
    have c4 : ((rd x1 (k : Int).toNat 0).int.tmod (3 : Int) == (0 : Int)) = false := beq_eq_false_iff_ne.2 m3
    by_cases big : a > (1099511627776 : Int)
    · have c5 : decide (a > (1099511627776 : Int)) = true := decide_eq_true big
      exact .inl ⟨(a, (k : Int), a, a), by rw [c1, c2, c3, c4, c5]; rfl⟩
    · have c5 : decide (a > (1099511627776 : Int)) = false := decide_eq_false big
      exact .inr ⟨a + 1, by omega, by omega, by rw [c1, c2, c3, c4, c5, c6 a, wb, hw, c6 (U a), wa, wk]; rfl⟩
  have c4 : ((rd x1 (k : Int).toNat 0).int.tmod (3 : Int) == (0 : Int)) = true := beq_iff_eq.2 m3
  generalize (rd x1 (k : Int).toNat 0).int = s at *
  by_cases lt : s < a
  · have c7 : decide (s < a) = true := decide_eq_true lt
    have c8 : decide (s ≥ a) = false := decide_eq_false (by omega)
    have c9 : (!false == false) = false := rfl
    by_cases big : a > (1099511627776 : Int)
    · have c5 : decide (a > (1099511627776 : Int)) = true := decide_eq_true big
      exact .inl ⟨(a, (k : Int), a, a), by rw [c1, c2, c3, c4, c7, c8, c5]; rfl⟩
    · have c5 : decide (a > (1099511627776 : Int)) = false := decide_eq_false big
      exact .inr ⟨a + 1, by omega, by omega, by rw [c1, c2, c3, c4, c7, c8, c5, c6 a, wb, hw, c6 (U a), wa, wk]; rfl⟩
  · have c7 : decide (s < a) = false := decide_eq_false lt
    have c8 : decide (s ≥ a) = true := decide_eq_true (by omega)
    by_cases big : s > (1099511627776 : Int)
    · have c5 : decide (s > (1099511627776 : Int)) = true := decide_eq_true big
      exact .inl ⟨(s, (k : Int), s, s), by rw [c1, c2, c3, c4, c7, c8, c5]; rfl⟩
    · have c5 : decide (s > (1099511627776 : Int)) = false := decide_eq_false big
      obtain ⟨ws, wt⟩ := ww s (by omega) (by omega)
      exact .inr ⟨s + 1, by omega, by omega, by rw [c1, c2, c3, c4, c7, c8, c5, c6 s, wt, hw, c6 (U s), ws, wk]; rfl⟩
theorem ldg_loop (x0_0 x0_1 x0_2 x0_3 : Int) (x1 : List (List Ct)) (hw : (Lit.int IntKind.u64 x0_0).wf = true) (hl : x1.length ≤ 9223372036854775807) : ∀ (d k m : Nat) (a : Int), k + d = x1.length → d < m → 0 ≤ a → a ≤ 1099511627777 →
    ∃ r, iter (ldg_L0_step x0_0 x0_1 x0_2 x0_3 x1) m (a, (k : Int), a, a) = some r ∧ isL r = true := by
  intro d
  induction d with
  | zero =>
    intro k m a hk hm _ _
    obtain ⟨m, rfl⟩ : ∃ m', m = m' + 1 := ⟨m - 1, by omega⟩
    have : ¬ (k : Int) < (x1.length : Int) := by omega
    have e : ldg_L0_step x0_0 x0_1 x0_2 x0_3 x1 (a, (k : Int), a, a) = some (.inr (.inl (a, (k : Int), a, a))) := by simp only [ldg_L0_step, this, decide_false, cond_false]
    exact ⟨.inl (a, (k : Int), a, a), by simp only [iter, e], rfl⟩
  | succ d ih =>
    intro k m a hk hm h0 h1
    obtain ⟨m, rfl⟩ : ∃ m', m = m' + 1 := ⟨m - 1, by omega⟩
    rcases ldg_round x0_0 x0_1 x0_2 x0_3 x1 hw hl (k := k) (by omega) h0 h1 with ⟨v, e⟩ | ⟨b, b0, b1, e⟩
    · exact ⟨.inl v, by simp only [iter, e], rfl⟩
    · simp only [iter, e]
      exact ih (k + 1) m b (by omega) (by omega) b0 b1
theorem ldg_true (x0_0 x0_1 x0_2 x0_3 : Int) (x1 : List (List Ct)) (hw : (Lit.int IntKind.u64 x0_0).wf = true) (hl : x1.length ≤ 9223372036854775807) : ldg_res x0_0 x0_1 x0_2 x0_3 x1 = some true := by
  obtain ⟨r, hr, hi⟩ := ldg_loop x0_0 x0_1 x0_2 x0_3 x1 hw hl x1.length 0 (x1.length + 1) 0 (by omega) (by omega) (by omega) (by omega)
  have z : ((0 : Nat) : Int) = 0 := rfl
  rw [z] at hr
  have p : ldg_L0_p x0_0 x0_1 x0_2 x0_3 x1 = true := by unfold ldg_L0_p; rw [hr, Option.isSome_some]
  have v : ldg_L0_v x0_0 x0_1 x0_2 x0_3 x1 = r := by unfold ldg_L0_v; rw [hr, Option.getD_some]
  simp [ldg_res, p, v, hi]
theorem ldg_call (x0_0 x0_1 x0_2 x0_3 : Int) (x1 : List (List Ct)) (hw : (Lit.int IntKind.u64 x0_0).wf = true) (hl : x1.length ≤ 9223372036854775807) : CallOk Try.prog 10 [.sv (.agg [.val false (.int .u64 x0_0), .val false (.int .i64 x0_1), .val false (.int .i64 x0_2), .val false (.int .i64 x0_3)]), .sv (.one (.ext 0))] [(0, .grid [.int .i64] x1)] 1 (ldg_O true) :=
  ldg_tree (ldg_true x0_0 x0_1 x0_2 x0_3 x1 hw hl)
end Go.Proofs.Ytkbhnomgkmeojaa
