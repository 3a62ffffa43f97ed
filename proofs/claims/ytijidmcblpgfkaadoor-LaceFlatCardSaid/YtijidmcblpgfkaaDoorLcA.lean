/- How much alike two pixels are, plainly. No condition. -/
import Derived.Test.YtijidmcblpgfkaaDoorEngLc2
import Derived.Test.YtijidmcblpgfkaaDoorLoopA
set_option linter.unusedVariables false
set_option linter.unusedSimpArgs false
namespace Go.Proofs.YtijidmcblpgfkaaDoor
open Go.RowKit

theorem abs_bif {x : Int} (h0 : -2147483648 ≤ x) (h1 : x ≤ 2147483648) : (bif decide (x < (0 : Int)) then IntKind.i64.wrap ((0 : Int) - x) else x) = absS x := by
  unfold absS
  rw [heldS_id h0 h1, Bool.cond_decide]
  split
  · rw [wrap_in (by omega) (by omega), if_neg (by omega)]; omega
  · rw [if_pos (by omega)]
theorem qdif_is (a0 a1 a2 b0 b1 b2 : Int) : qdif_v a0 a1 a2 b0 b1 b2 = hdif_v a0 a1 a2 b0 b1 b2 := by
  unfold qdif_v hdif_v
  have e : qsub_v a0 a1 a2 b0 b1 b2 = hsub_v a0 a1 a2 b0 b1 b2 := rfl
  have h : hsub_v a0 a1 a2 b0 b1 b2 = (subS a0 b0, subS a1 b1, subS a2 b2) := rfl
  rw [e, h]
  simp only
  rw [abs_bif (subS_bd _ _).1 (subS_bd _ _).2, abs_bif (subS_bd _ _).1 (subS_bd _ _).2, abs_bif (subS_bd _ _).1 (subS_bd _ _).2]
def inL (i : Int) (l : List (List Ct)) : Bool := decide ((0 : Int) ≤ i ∧ i < ((l.length : Nat) : Int))
/-- Two pixels, by their shapes, normals, depths. -/
def likS (D N S : List (List Ct)) (i k : Int) : Int :=
  if ((rd S i.toNat 0).int < 0) ≠ ((rd S k.toNat 0).int < 0) then 0 else if (rd S i.toNat 0).int < 0 then 65536 else
    mulS (unS (addS (addS (addS (0 : Int) (mulS (rd N i.toNat 0).int (rd N k.toNat 0).int)) (mulS (rd N i.toNat 1).int (rd N k.toNat 1).int)) (mulS (rd N i.toNat 2).int (rd N k.toNat 2).int))) (divS (65536 : Int) (addS (65536 : Int) (mulS (262144 : Int) (absS (subS (rd D i.toNat 0).int (rd D k.toNat 0).int)))))
def likP (D N S : List (List Ct)) (i k : Int) : Bool := inL i S && inL k S && inL i N && inL k N && inL i D && inL k D
theorem likP_iff {D N S : List (List Ct)} {i k : Int} (h : likP D N S i k = true) : (((((0 : Int) ≤ i ∧ i < (S.length : Int)) ∧ (0 : Int) ≤ k ∧ k < (S.length : Int)) ∧ (0 : Int) ≤ i ∧ i < (N.length : Int)) ∧ (0 : Int) ≤ k ∧ k < (N.length : Int)) ∧ ((0 : Int) ≤ i ∧ i < (D.length : Int)) ∧ (0 : Int) ≤ k ∧ k < (D.length : Int) := by
  simpa [likP, inL, and_assoc] using h
theorem lik_some (x0_0 x0_1 : Int) (x0_2 x0_3 x0_4 x0_5 x0_6 x0_7 : List (List Ct)) (x1 x2 : Int) (h : likP x0_3 x0_4 x0_6 x1 x2 = true) : lik_res x0_3 x0_4 x0_6 x1 x2 = some (likS x0_3 x0_4 x0_6 x1 x2) := by
  obtain ⟨⟨⟨⟨h1, h2⟩, h3⟩, h4⟩, h5, h6⟩ := likP_iff h
  unfold lik_res likS
  rw [decide_eq_true h1, decide_eq_true h2, decide_eq_true h3, decide_eq_true h4, decide_eq_true h5, decide_eq_true h6]
  simp only [cond_true]
  by_cases q1 : (rd x0_6 x1.toNat 0).int < 0 <;> by_cases q2 : (rd x0_6 x2.toNat 0).int < 0 <;> simp [q1, q2]
theorem ali_some (x0_0 x0_1 : Int) (x0_2 x0_3 x0_4 x0_5 x0_6 x0_7 : List (List Ct)) (x1 x2 : Int) (h : likP x0_3 x0_4 x0_6 x1 x2 = true) : ali_res x0_3 x0_4 x0_6 x1 x2 = some (likS x0_3 x0_4 x0_6 x1 x2) := by
  obtain ⟨⟨⟨⟨h1, h2⟩, h3⟩, h4⟩, h5, h6⟩ := likP_iff h
  unfold ali_res likS
  rw [decide_eq_true h1, decide_eq_true h2, decide_eq_true h3, decide_eq_true h4, decide_eq_true h5, decide_eq_true h6]
  simp only [cond_true]
  rw [abs_bif (subS_bd _ _).1 (subS_bd _ _).2]
  have ge : ∀ x : Int, decide (x ≥ (0 : Int)) = !decide (x < 0) := fun x => by
    by_cases hx : x < 0
    · rw [decide_eq_true hx, decide_eq_false (by omega)]; rfl
    · rw [decide_eq_false hx, decide_eq_true (by omega)]; rfl
  rw [ge, ge]
  by_cases q1 : (rd x0_6 x1.toNat 0).int < 0 <;> by_cases q2 : (rd x0_6 x2.toNat 0).int < 0 <;> simp [q1, q2]
/-- Two to a number. -/
def powS (n : Int) : Int := (2 : Int) ^ n.toNat
def levP (n : Int) : Bool := decide (0 ≤ n ∧ n < 5)
theorem lev_cases {n : Int} (h : levP n = true) : n = 0 ∨ n = 1 ∨ n = 2 ∨ n = 3 ∨ n = 4 := by
  simp [levP] at h; omega
noncomputable def neaS (a0 a1 a2 b0 b1 b2 n : Int) : Int := divS (65536 : Int) (addS (65536 : Int) (mulS (ofS (2 * powS n)) (hdif_v a0 a1 a2 b0 b1 b2)))
theorem nea_some (a0 a1 a2 b0 b1 b2 n : Int) (h : levP n = true) : nea_res a0 a1 a2 b0 b1 b2 n = some (neaS a0 a1 a2 b0 b1 b2 n) := by
  have e : IntKind.i64.wrap ((2 : Int) * (2 : Int) ^ min n.toNat IntKind.i64.bits) = 2 * powS n := by
    rcases lev_cases h with rfl | rfl | rfl | rfl | rfl <;> decide
  have h0 : (0 : Int) ≤ n := by rcases lev_cases h with rfl | rfl | rfl | rfl | rfl <;> decide
  unfold nea_res neaS
  rw [e, decide_eq_true h0]; rfl
theorem pow_some (n : Int) (h : levP n = true) : pow_res n = some (powS n) := by
  have w : ∀ z : Int, -100 ≤ z → z ≤ 100 → IntKind.i64.wrap z = z := fun z h0 h1 => wrap_in (by omega) (by omega)
  have key : iter (pow_L0_step n) 6 (1, 0) = some (powS n, n) := by
    rcases lev_cases h with rfl | rfl | rfl | rfl | rfl <;> decide +kernel
  have p : pow_L0_p n = true := by unfold pow_L0_p; rw [key]; rfl
  have v : (pow_L0_v n).fst = powS n := by unfold pow_L0_v loopRes; rw [key]; rfl
  unfold pow_res
  rw [p, v]; rfl
end Go.Proofs.YtijidmcblpgfkaaDoor
