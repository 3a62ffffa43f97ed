/- Numbers laid by the program's writer and by the document, byte by byte. No condition. -/
import Derived.Test.YtcpbiijegbbafaaEngJob4
import Derived.Test.YtcpbiijegbbafaaByt
set_option linter.unusedVariables false
set_option linter.unusedSimpArgs false
namespace Go.Proofs.Ytcpbiijegbbafaa
open Go.RowKit

theorem wra_it {x2 : Int} {n : Nat} (hx : x2 = n) (hn : n ≤ 1000000000) : ∀ (d i fuel : Nat) (x : Int) (r : List (List Ct)), i + d = n → d < fuel → r.length + d ≤ 1000000000 →
    ∃ x' r', iter (wra_L0_step x2) fuel (x, (i : Int), r) = some (x', (n : Int), r') ∧ r'.length = r.length + d ∧ col r' = col r ++ byt d x := by
  intro d
  induction d with
  | zero =>
    intro i fuel x r hi hf hr
    obtain ⟨fuel, rfl⟩ : ∃ k, fuel = k + 1 := ⟨fuel - 1, by omega⟩
    obtain rfl : i = n := by omega
    have q : ¬ ((i : Int) < x2) := by omega
    exact ⟨x, r, by rw [iter_inr (r := (x, (i : Int), r)) (by simp only [wra_L0_step, cond_not q])], rfl, by simp [byt]⟩
  | succ d ih =>
    intro i fuel x r hi hf hr
    obtain ⟨fuel, rfl⟩ : ∃ k, fuel = k + 1 := ⟨fuel - 1, by omega⟩
    have q : ((i : Int) < x2) := by omega
    have w1 : IntKind.i64.wrap ((i : Int) + 1) = ((i + 1 : Nat) : Int) := wrap_succ (by omega)
    have hst : wra_L0_step x2 (x, (i : Int), r) = some (.inl (x / 256, ((i + 1 : Nat) : Int), r ++ [[Ct.i (IntKind.u8.wrap x)]])) := by
      simp only [wra_L0_step, cond_dec q, w1, shr8]
      exact ob_step (by simp only [List.length_cons, List.length_nil]; omega) rfl
    obtain ⟨x', r', h1, h2, h3⟩ := ih (i + 1) fuel (x / 256) (r ++ [[Ct.i (IntKind.u8.wrap x)]]) (by omega) (by omega) (by simp; omega)
    refine ⟨x', r', by rw [iter_inl hst]; exact h1, by rw [h2]; simp; omega, ?_⟩
    rw [h3, col_app, col_cons, col_nil]
    simp [byt, Ct.int]
theorem wra_ok {r : List (List Ct)} {x : Int} (n : Nat) (hr : r.length + n ≤ 1000000000) : (wra_res r x (n : Int)).isSome = true ∧ (wra_v r x (n : Int)).length = r.length + n ∧ col (wra_v r x (n : Int)) = col r ++ byt n x := by
  obtain ⟨x', r', h1, h2, h3⟩ := wra_it (x2 := (n : Int)) (n := n) rfl (by omega) n 0 (n + 1) x r (by omega) (by omega) hr
  rw [show ((0 : Nat) : Int) = 0 from rfl] at h1
  have p1 : wra_L0_p r x (n : Int) = true := by unfold wra_L0_p; rw [Int.toNat_natCast, h1]; rfl
  have p2 : (wra_L0_v r x (n : Int)).2.2 = r' := by unfold wra_L0_v loopRes; rw [Int.toNat_natCast, h1]; rfl
  have h : wra_res r x (n : Int) = some r' := by unfold wra_res; rw [p1, p2]; rfl
  have hv : wra_v r x (n : Int) = r' := by unfold wra_v; rw [h]; rfl
  exact ⟨by rw [h]; rfl, by rw [hv]; exact h2, by rw [hv]; exact h3⟩
theorem wrn_ok {x : Int} (n : Nat) (hr : n ≤ 1000000000) : (wrn_res x (n : Int)).isSome = true ∧ (wrn_v x (n : Int)).length = n ∧ col (wrn_v x (n : Int)) = byt n x := by
  have e : wrn_L0_step (n : Int) = wra_L0_step (n : Int) := rfl
  obtain ⟨x', r', h1, h2, h3⟩ := wra_it (x2 := (n : Int)) (n := n) rfl (by omega) n 0 (n + 1) x [] (by omega) (by omega) (by simpa using hr)
  rw [show ((0 : Nat) : Int) = 0 from rfl, ← e] at h1
  have p1 : wrn_L0_p x (n : Int) = true := by unfold wrn_L0_p; rw [Int.toNat_natCast, h1]; rfl
  have p2 : (wrn_L0_v x (n : Int)).2.2 = r' := by unfold wrn_L0_v loopRes; rw [Int.toNat_natCast, h1]; rfl
  have h : wrn_res x (n : Int) = some r' := by unfold wrn_res; rw [p1, p2]; rfl
  have hv : wrn_v x (n : Int) = r' := by unfold wrn_v; rw [h]; rfl
  exact ⟨by rw [h]; rfl, by rw [hv, h2]; simp, by rw [hv, h3]; simp [col_nil]⟩
end Go.Proofs.Ytcpbiijegbbafaa
