/- Numbers laid by the document, byte by byte. No condition. -/
import Derived.Test.YtcpbiijegbbafaaEngJob4N
import Derived.Test.YtcpbiijegbbafaaJobNum
set_option linter.unusedVariables false
set_option linter.unusedSimpArgs false
namespace Go.Proofs.Ytcpbiijegbbafaa
open Go.RowKit

theorem rnm_it {x2 : Int} {n : Nat} (hx : x2 = n) (hn : n ≤ 1000000000) : ∀ (d i fuel : Nat) (x : Int) (r : List (List Ct)), 0 ≤ x → x < 18446744073709551616 → i + d = n → d < fuel → r.length + d ≤ 1000000000 →
    ∃ x' r', iter (rnm_L0_step x2) fuel (x, (i : Int), r) = some (x', (n : Int), r') ∧ r'.length = r.length + d ∧ col r' = col r ++ byt d x := by
  intro d
  induction d with
  | zero =>
    intro i fuel x r h0 h1 hi hf hr
    obtain ⟨fuel, rfl⟩ : ∃ k, fuel = k + 1 := ⟨fuel - 1, by omega⟩
    obtain rfl : i = n := by omega
    have q : ¬ ((i : Int) < x2) := by omega
    exact ⟨x, r, by rw [iter_inr (r := (x, (i : Int), r)) (by simp only [rnm_L0_step, cond_not q])], rfl, by simp [byt]⟩
  | succ d ih =>
    intro i fuel x r h0 h1 hi hf hr
    obtain ⟨fuel, rfl⟩ : ∃ k, fuel = k + 1 := ⟨fuel - 1, by omega⟩
    have q : ((i : Int) < x2) := by omega
    have w1 : IntKind.i64.wrap ((i : Int) + 1) = ((i + 1 : Nat) : Int) := wrap_succ (by omega)
    have w2 : IntKind.u64.wrap (x.tdiv 256) = x / 256 := by rw [Int.tdiv_eq_ediv_of_nonneg h0, u64_in (by omega) (by omega)]
    have w3 : IntKind.u8.wrap (x.tmod 256) = IntKind.u8.wrap x := by
      rw [Int.tmod_eq_emod_of_nonneg h0, u8_mod, u8_mod]; omega
    have hst : rnm_L0_step x2 (x, (i : Int), r) = some (.inl (x / 256, ((i + 1 : Nat) : Int), r ++ [[Ct.i (IntKind.u8.wrap x)]])) := by
      simp only [rnm_L0_step, cond_dec q, w1, w2, w3]
      exact ob_step (by simp only [List.length_cons, List.length_nil]; omega) rfl
    obtain ⟨x', r', g1, g2, g3⟩ := ih (i + 1) fuel (x / 256) (r ++ [[Ct.i (IntKind.u8.wrap x)]]) (by omega) (by omega) (by omega) (by omega) (by simp; omega)
    refine ⟨x', r', by rw [iter_inl hst]; exact g1, by rw [g2]; simp; omega, ?_⟩
    rw [g3, col_app, col_cons, col_nil]
    simp [byt, Ct.int]
theorem rnm_ok {r : List (List Ct)} {x : Int} (n : Nat) (h0 : 0 ≤ x) (h1 : x < 18446744073709551616) (hr : r.length + n ≤ 1000000000) : (rnm_res r x (n : Int)).isSome = true ∧ (rnm_v r x (n : Int)).length = r.length + n ∧ col (rnm_v r x (n : Int)) = col r ++ byt n x := by
  obtain ⟨x', r', g1, g2, g3⟩ := rnm_it (x2 := (n : Int)) (n := n) rfl (by omega) n 0 (n + 1) x ([] ++ r) h0 h1 (by omega) (by omega) (by simpa using hr)
  rw [show ((0 : Nat) : Int) = 0 from rfl] at g1
  have p1 : rnm_L0_p r x (n : Int) = true := by unfold rnm_L0_p; rw [Int.toNat_natCast, g1]; rfl
  have p2 : (rnm_L0_v r x (n : Int)).2.2 = r' := by unfold rnm_L0_v loopRes; rw [Int.toNat_natCast, g1]; rfl
  have h : rnm_res r x (n : Int) = some r' := by
    unfold rnm_res; rw [p1, p2]
    exact ob_step (by omega) rfl
  have hv : rnm_v r x (n : Int) = r' := by unfold rnm_v; rw [h]; rfl
  exact ⟨by rw [h]; rfl, by rw [hv]; simpa using g2, by rw [hv]; simpa using g3⟩
end Go.Proofs.Ytcpbiijegbbafaa
