/- GlancePictures is true. No condition but what bytes are. -/
import Derived.Test.YtjjijaeoafeocaaGlPix
import Derived.Test.YtjjijaeoafeocaaGlancePicturesT
set_option linter.unusedVariables false
set_option linter.unusedSimpArgs false
namespace Go.Proofs.Ytjjijaeoafeocaa
open Go.RowKit

theorem dotsB_of {D : List (List Ct)} (h : ∀ i, i < D.length → ∀ (j : Nat) s, [Sh.int IntKind.u8, Sh.int IntKind.u8, Sh.int IntKind.u8][j]? = some s → CtWf 7 s (rd D i j)) : DotsB D := by
  intro i hi j hj
  have h1 : (Lit.int IntKind.u8 (rd D i j).int).wf = true := by
    match j, hj with
    | 0, _ => exact h i hi 0 _ rfl
    | 1, _ => exact h i hi 1 _ rfl
    | 2, _ => exact h i hi 2 _ rfl
  simp [Lit.wf, IntKind.min, IntKind.max, IntKind.bits, IntKind.signed] at h1
  omega
theorem rri_cases (a b : Int) (D : List (List Ct)) : (rri_v a b D = false ∧ pri_v a b D = false) ∨ (rri_v a b D = true ∧ ∃ W H : Nat, a = W ∧ b = H ∧ 1 ≤ W ∧ W ≤ 64 ∧ 1 ≤ H ∧ H ≤ 64 ∧ D.length = W * H) := by
  have e : pri_v a b D = rri_v a b D := rfl
  cases h : rri_v a b D with
  | false => exact .inl ⟨rfl, by rw [e, h]⟩
  | true =>
    refine .inr ⟨rfl, ?_⟩
    unfold rri_v rri_res at h
    change (bif bif decide (a ≥ (1 : Int)) then bif decide (a ≤ (64 : Int)) then bif decide (b ≥ (1 : Int)) then decide (b ≤ (64 : Int)) else false else false else false then (↑D.length : Int) == IntKind.i64.wrap (a * b) else false) = true at h
    by_cases c1 : a ≥ 1
    · by_cases c2 : a ≤ 64
      · by_cases c3 : b ≥ 1
        · by_cases c4 : b ≤ 64
          · rw [decide_eq_true c1, decide_eq_true c2, decide_eq_true c3, decide_eq_true c4] at h
            obtain ⟨W, rfl⟩ : ∃ W : Nat, a = W := ⟨a.toNat, by omega⟩
            obtain ⟨H, rfl⟩ : ∃ H : Nat, b = H := ⟨b.toNat, by omega⟩
            have bd : W * H ≤ 64 * 64 := Nat.mul_le_mul (by omega) (by omega)
            have m : (W : Int) * (H : Int) = ((W * H : Nat) : Int) := (Int.natCast_mul W H).symm
            rw [m, wrap_in (by omega) (by omega)] at h
            have h : (D.length : Int) = ((W * H : Nat) : Int) := beq_iff_eq.1 h
            exact ⟨W, H, rfl, rfl, by omega, by omega, by omega, by omega, by omega⟩
          · rw [decide_eq_true c1, decide_eq_true c2, decide_eq_true c3, decide_eq_false c4] at h; cases h
        · rw [decide_eq_true c1, decide_eq_true c2, decide_eq_false c3] at h; cases h
      · rw [decide_eq_true c1, decide_eq_false c2] at h; cases h
    · rw [decide_eq_false c1] at h; cases h
theorem lgp_true (a b : Int) (D : List (List Ct)) (hD : DotsB D) : lgp_res a b D = some true := by
  by_cases big : (D.length : Int) > 5000
  · unfold lgp_res; exact cond_decI big
  · have t : pto_res a b D = some (a, b, D) := by
      unfold pto_res
      exact cond_decI (by omega)
    have tv : pto_v a b D = (a, b, D) := by unfold pto_v; rw [t]; rfl
    have rs : (rri_res a b D).isSome = true := rfl
    rcases rri_cases a b D with ⟨r1, r2⟩ | ⟨r1, W, H, rfl, rfl, w0, w1, h0, h1, hl⟩
    · have g : gli_res a b D = some (1, []) := by
        unfold gli_res
        rw [r2]; rfl
      have gv : lgp_c37346612 a b D = (1, []) := by unfold lgp_c37346612 gli_v; rw [tv]; exact congrArg (fun o => Option.getD o default) g
      unfold lgp_res
      rw [t, tv, rs, r1, gv]
      refine (cond_notI big).trans ?_
      refine (cond_true _ _).trans ?_
      refine (congrArg (fun o => bif Option.isSome o then _ else none) g).trans ?_
      rfl
    · have g := gli_is hD w0 w1 h1 hl h0
      have r := rli_is hD w0 w1 h1 hl
      have gv : lgp_c37346612 (W : Int) (H : Int) D = (0, linesL D W H) := by unfold lgp_c37346612 gli_v; rw [tv]; exact congrArg (fun o => Option.getD o default) g
      have rv : rli_v (W : Int) (H : Int) D = linesL D W H := by unfold rli_v; rw [r]; rfl
      have ln : (linesL D W H).length = H := tab_length _ _
      have i : iter (lgp_L0_step (W : Int) (H : Int) D) 5001 0 = some (match findB (fun _ => false) H 0 with | some i => .inr ((fun _ => ()) i) | none => .inl (H : Int)) := by
        refine iter_find (fun _ => false) (fun _ => ()) (fun k hk => ?_) ?_ (by omega)
        · have sz : (rd (linesL D W H) k 0).str.size = W := by
            unfold linesL
            rw [rd_tab hk]
            exact (strOf_size _).trans (tab_length _ _)
          simp only [lgp_L0_step, gv, ln, Int.toNat_natCast, sz]
          refine (cond_decI (by omega)).trans ?_
          refine (cond_decI (by omega)).trans ?_
          rw [wrap_succ (by omega)]
          simp
        · simp only [lgp_L0_step, gv, ln]
          exact cond_notI (by omega)
      rw [findB_none.2 (fun _ _ _ => rfl)] at i
      have p : lgp_L0_p (W : Int) (H : Int) D = true := by unfold lgp_L0_p; rw [i]; rfl
      have v : isL (lgp_L0_v (W : Int) (H : Int) D) = true := by unfold lgp_L0_v; rw [i]; rfl
      have cs : lgp_c69237972 (W : Int) (H : Int) D = true := by unfold lgp_c69237972; rw [gv, rv]; exact sam_vrefl _ (by rw [ln]; omega)
      have sr : sam_res (linesL D W H) (linesL D W H) = some true := sam_refl _ (by rw [ln]; omega)
      unfold lgp_res
      rw [t, tv, rs, r1, gv, p, v, r, cs, rv, sr, ln]
      refine (cond_notI big).trans ?_
      refine (cond_true _ _).trans ?_
      refine (congrArg (fun o => bif Option.isSome o then _ else none) g).trans ?_
      have e : ((H : Int) == (H : Int)) = true := beq_self_eq_true _
      rw [e]
      rfl
theorem lgp_call (a b : Int) (D : List (List Ct)) (h : ∀ i, i < D.length → ∀ (j : Nat) s, [Sh.int IntKind.u8, Sh.int IntKind.u8, Sh.int IntKind.u8][j]? = some s → CtWf 7 s (rd D i j)) : CallOk Try.prog 5 [.sv (.agg [.val false (.int .i64 a), .val false (.int .i64 b), .ext 0])] [(0, .grid [.int .u8, .int .u8, .int .u8] D)] 1 (lgp_O true) :=
  lgp_tree (lgp_true a b D (dotsB_of h))
end Go.Proofs.Ytjjijaeoafeocaa
