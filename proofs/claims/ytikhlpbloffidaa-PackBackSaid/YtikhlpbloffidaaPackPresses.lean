/- The law PackPresses: it answers true for all bytes. No condition. -/
import Derived.Test.YtikhlpbloffidaaPackL
import Derived.Test.YtikhlpbloffidaaPackPressesT
set_option linter.unusedVariables false
set_option linter.unusedSimpArgs false
namespace Go.Proofs.Ytikhlpbloffidaa
open Go.RowKit

theorem plnF_stop : ∀ (m : Nat) (s : List Int), plnF m s < m → s.drop (plnF m s) = [] ∨ 3 ≤ alk (s.drop (plnF m s))
  | 0, s => fun h => by omega
  | m + 1, [] => fun h => .inl rfl
  | m + 1, c :: t => fun h => by
    unfold plnF at h ⊢
    by_cases hk : alk (c :: t) < 3
    · rw [if_pos hk] at h ⊢
      exact plnF_stop m t (by omega)
    · rw [if_neg hk]
      exact .inr (by simpa using hk)
theorem prs_len : ∀ (f : Nat) (s : List Int), s.length ≤ f → (prs f s).length ≤ s.length + (s.length + 127) / 128 ∧ (3 ≤ alk s → (prs f s).length + 1 ≤ s.length + (s.length + 127) / 128) := by
  intro f
  induction f with
  | zero => intro s h; obtain rfl : s = [] := List.length_eq_zero_iff.1 (by omega); exact ⟨by simp [prs], fun h => by simp [alk] at h⟩
  | succ f ih =>
    intro s h
    cases s with
    | nil => exact ⟨by simp [prs], fun h => by simp [alk] at h⟩
    | cons c t =>
      have hal := alk_le (c :: t)
      simp only [List.length_cons] at h hal ⊢
      by_cases h3 : 3 ≤ alk (c :: t)
      · rw [prs_run rfl h3]
        generalize hm : min (alk (c :: t)) 129 = m
        have hl : ((c :: t).drop m).length = t.length + 1 - m := by simp
        have := (ih ((c :: t).drop m) (by rw [hl]; omega)).1
        rw [hl] at this
        simp only [List.length_cons]
        omega
      · rw [prs_plain rfl h3]
        refine ⟨?_, fun h => absurd h h3⟩
        have hp := pln_le (c := c) (t := t)
        have h1 : 1 ≤ pln (c :: t) := by unfold pln; omega
        have hstop : pln (c :: t) < 128 → (c :: t).drop (pln (c :: t)) = [] ∨ 3 ≤ alk ((c :: t).drop (pln (c :: t))) := fun hlt => by
          simp only [pln, List.tail_cons, List.drop_succ_cons] at hlt ⊢
          exact plnF_stop 127 t (by omega)
        generalize pln (c :: t) = k at *
        have hl : ((c :: t).drop k).length = t.length + 1 - k := by simp
        have hq := ih ((c :: t).drop k) (by rw [hl]; omega)
        rw [hl] at hq
        simp only [List.length_cons, List.length_append, List.length_take]
        by_cases hk : k < 128
        · rcases hstop hk with h0 | h0
          · rw [h0, prs_nil]
            simp only [List.length_nil]; omega
          · have := hq.2 h0
            omega
        · have := hq.1
          omega
theorem prs_pos {f : Nat} {s : List Int} (h : s ≠ []) (hf : s.length ≤ f) : 0 < (prs f s).length := by
  cases s with
  | nil => exact absurd rfl h
  | cons c t =>
    obtain ⟨f, rfl⟩ : ∃ k, f = k + 1 := ⟨f - 1, by simp at hf; omega⟩
    rw [prs]
    split <;> simp

theorem lpp_true (x0 : List (List Ct)) : lpp_res x0 = some true := by
  unfold lpp_res
  by_cases h0 : (x0.length : Int) > 20000
  · rw [cond_dec h0]
  have hl : x0.length ≤ 20000 := by omega
  obtain ⟨p1, p2, p3⟩ := pprs_is hl
  obtain ⟨r1, r2⟩ := rprs_is hl
  have hb : (pprs_v x0).length ≤ x0.length + (x0.length + 127) / 128 := by
    have := (prs_len x0.length (col x0) (by rw [col_length]; omega)).1
    rw [← p2, col_length, col_length] at this; exact this
  have hs : ((strOf (pprs_v x0)).toList == (strOf (rprs_v x0)).toList) = true := by rw [strOf_col (p2.trans r2.symm)]; simp
  rw [cond_not h0, p1, r1, hs]
  simp only [cond_true]
  by_cases hz : x0.length = 0
  · have e1 : ((x0.length : Int) == 0) = true := by rw [hz]; rfl
    have e2 : (((pprs_v x0).length : Int) == 0) = true := by
      have : (pprs_v x0).length = 0 := by omega
      rw [this]; rfl
    rw [e1, e2]
    rfl
  · have e1 : ((x0.length : Int) == 0) = false := by simpa using hz
    have w1 : IntKind.i64.wrap ((x0.length : Int) + 128) = (x0.length : Int) + 128 := wrap_in (by omega) (by omega)
    have w2 : IntKind.i64.wrap ((x0.length : Int) + 128 - 1) = (x0.length : Int) + 127 := by rw [wrap_in (by omega) (by omega)]; omega
    have e : ((x0.length : Int) + 127).tdiv 128 = (((x0.length + 127) / 128 : Nat) : Int) := by rw [Int.tdiv_eq_ediv_of_nonneg (by omega)]; omega
    have w3 : IntKind.i64.wrap (((x0.length + 127) / 128 : Nat) : Int) = (((x0.length + 127) / 128 : Nat) : Int) := wrap_in (by omega) (by omega)
    have w4 : IntKind.i64.wrap ((x0.length : Int) + (((x0.length + 127) / 128 : Nat) : Int)) = (x0.length : Int) + (((x0.length + 127) / 128 : Nat) : Int) := wrap_in (by omega) (by omega)
    have q1 : ¬ (x0.length : Int) ≤ 0 := by omega
    have q2 : ¬ (x0.length : Int) > 1073741824 := by omega
    have q3 : ((pprs_v x0).length : Int) ≤ (x0.length : Int) + (((x0.length + 127) / 128 : Nat) : Int) := by omega
    rw [e1, cond_false, cond_not q1, cond_not q2, w1, w2, e, w3, w4, decide_eq_true q3]
theorem lpp_call (x0 : List (List Ct)) : CallOk Try.prog 3 [.sv (.one (.ext 0))] [(0, .grid [.int .u8] x0)] 1 (lpp_O true) := lpp_tree (lpp_true x0)
end Go.Proofs.Ytikhlpbloffidaa
