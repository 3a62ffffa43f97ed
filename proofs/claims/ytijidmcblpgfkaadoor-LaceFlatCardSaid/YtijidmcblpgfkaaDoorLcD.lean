/- A pixel, smoothed, plainly: what both ways answer. No condition. -/
import Derived.Test.YtijidmcblpgfkaaDoorLcC
set_option linter.unusedVariables false
set_option linter.unusedSimpArgs false
namespace Go.Proofs.YtijidmcblpgfkaaDoor
open Go.RowKit

theorem loop_of {V R : Type} [Inhabited R] {step : V → Option (V ⊕ R)} {n : Nat} {v : V} {r : R} (h : iter step n v = some r) : (iter step n v).isSome = true ∧ loopRes step n v = r := by
  unfold loopRes
  rw [h]
  exact ⟨rfl, rfl⟩
section
variable {W H n : Int} {D N S L : List (List Ct)} (ok : PixOk W H n D N S L) {x y : Int} (hx : 0 ≤ x) (hx' : x < W) (hy : 0 ≤ y) (hy' : y < H)
include ok hx hx' hy hy'
theorem pix_row {g : List (List Ct)} (hg : gtB g = true) {r : Nat} (hr : r < 5) (t : Int × Int × Int × Int) :
    iter (pix_L2_step g D N S W H L (y * W + x) n ((r : Int) - 2)) 6 (t.1, -2, t.2.1, t.2.2.1, t.2.2.2) = some ((rowF W H n D N S L x y r t).1, 3, (rowF W H n D N S L x y r t).2.1, (rowF W H n D N S L x y r t).2.2.1, (rowF W H n D N S L x y r t).2.2.2) :=
  iter_range (step := pix_L2_step g D N S W H L (y * W + x) n ((r : Int) - 2)) (A := Int × Int × Int × Int) (fun c t => (t.1, (c : Int) - 2, t.2.1, t.2.2.1, t.2.2.2)) (fun _ _ => True) (f := fun c t => accF W H n D N S L x y ((r : Int) - 2) ((c : Int) - 2) t) (out := fun t => (t.1, 3, t.2.1, t.2.2.1, t.2.2.2)) (n := 5) (m := 6) (a0 := t) rfl (by omega)
    (fun k hk t _ => ⟨by
      have e : ((k + 1 : Nat) : Int) - 2 = ((k : Int) - 2) + 1 := by omega
      rw [e]
      exact pix_in ok hx hx' hy hy' hg (by omega) (by omega) (by omega) (by omega) t, trivial⟩) (fun t _ => by simp [pix_L2_step]) trivial
theorem rpx_row {r : Nat} (hr : r < 5) (t : Int × Int × Int × Int) :
    iter (rpx_L2_step D N S W H L x y n ((r : Int) - 2)) 6 (t.1, -2, t.2.1, t.2.2.1, t.2.2.2) = some ((rowF W H n D N S L x y r t).1, 3, (rowF W H n D N S L x y r t).2.1, (rowF W H n D N S L x y r t).2.2.1, (rowF W H n D N S L x y r t).2.2.2) :=
  iter_range (step := rpx_L2_step D N S W H L x y n ((r : Int) - 2)) (A := Int × Int × Int × Int) (fun c t => (t.1, (c : Int) - 2, t.2.1, t.2.2.1, t.2.2.2)) (fun _ _ => True) (f := fun c t => accF W H n D N S L x y ((r : Int) - 2) ((c : Int) - 2) t) (out := fun t => (t.1, 3, t.2.1, t.2.2.1, t.2.2.2)) (n := 5) (m := 6) (a0 := t) rfl (by omega)
    (fun k hk t _ => ⟨by
      have e : ((k + 1 : Nat) : Int) - 2 = ((k : Int) - 2) + 1 := by omega
      rw [e]
      exact rpx_in ok hx hx' hy hy' (by omega) (by omega) (by omega) (by omega) t, trivial⟩) (fun t _ => by simp [rpx_L2_step]) trivial
theorem pix_sum {g : List (List Ct)} (hg : gtB g = true) :
    iter (pix_L0_step g D N S W H L (y * W + x) n) 6 (0, -2, 0, 0, 0) = some ((sumF W H n D N S L x y).1, 3, (sumF W H n D N S L x y).2.1, (sumF W H n D N S L x y).2.2.1, (sumF W H n D N S L x y).2.2.2) :=
  iter_range (step := pix_L0_step g D N S W H L (y * W + x) n) (A := Int × Int × Int × Int) (fun c t => (t.1, (c : Int) - 2, t.2.1, t.2.2.1, t.2.2.2)) (fun _ _ => True) (f := rowF W H n D N S L x y) (out := fun t => (t.1, 3, t.2.1, t.2.2.1, t.2.2.2)) (n := 5) (m := 6) (a0 := (0, 0, 0, 0)) rfl (by omega)
    (fun k hk t _ => ⟨by
      have e : ((k + 1 : Nat) : Int) - 2 = ((k : Int) - 2) + 1 := by omega
      have w : IntKind.i64.wrap (((k : Int) - 2) + 1) = ((k : Int) - 2) + 1 := wrap_in (by omega) (by omega)
      have h := pix_row ok hx hx' hy hy' hg hk t
      have hp : pix_L2_p g D N S W H L (y * W + x) n t.1 ((k : Int) - 2) t.2.1 t.2.2.1 t.2.2.2 = true := by unfold pix_L2_p; rw [h]; rfl
      have hv := (loop_of h).2
      change pix_L2_v g D N S W H L (y * W + x) n t.1 ((k : Int) - 2) t.2.1 t.2.2.1 t.2.2.2 = _ at hv
      have q : decide ((k : Int) - 2 ≤ 2) = true := decide_eq_true (by omega)
      rw [e]
      simp only [pix_L0_step, hp, hv, w, q, cond_true], trivial⟩) (fun t _ => by simp [pix_L0_step]) trivial
theorem rpx_sum :
    iter (rpx_L0_step D N S W H L x y n) 6 (0, -2, 0, 0, 0) = some ((sumF W H n D N S L x y).1, 3, (sumF W H n D N S L x y).2.1, (sumF W H n D N S L x y).2.2.1, (sumF W H n D N S L x y).2.2.2) :=
  iter_range (step := rpx_L0_step D N S W H L x y n) (A := Int × Int × Int × Int) (fun c t => (t.1, (c : Int) - 2, t.2.1, t.2.2.1, t.2.2.2)) (fun _ _ => True) (f := rowF W H n D N S L x y) (out := fun t => (t.1, 3, t.2.1, t.2.2.1, t.2.2.2)) (n := 5) (m := 6) (a0 := (0, 0, 0, 0)) rfl (by omega)
    (fun k hk t _ => ⟨by
      have e : ((k + 1 : Nat) : Int) - 2 = ((k : Int) - 2) + 1 := by omega
      have w : IntKind.i64.wrap (((k : Int) - 2) + 1) = ((k : Int) - 2) + 1 := wrap_in (by omega) (by omega)
      have h := rpx_row ok hx hx' hy hy' hk t
      have hp : rpx_L2_p D N S W H L x y n t.1 ((k : Int) - 2) t.2.1 t.2.2.1 t.2.2.2 = true := by unfold rpx_L2_p; rw [h]; rfl
      have hv := (loop_of h).2
      change rpx_L2_v D N S W H L x y n t.1 ((k : Int) - 2) t.2.1 t.2.2.1 t.2.2.2 = _ at hv
      have q : decide ((k : Int) - 2 ≤ 2) = true := decide_eq_true (by omega)
      rw [e]
      simp only [rpx_L0_step, hp, hv, w, q, cond_true], trivial⟩) (fun t _ => by simp [rpx_L0_step]) trivial
theorem pix_some {g : List (List Ct)} (hg : gtB g = true) : pix_res g D N S W H L (y * W + x) n = some (pixS W H n D N S L x y) := by
  have h := pix_sum ok hx hx' hy hy' hg
  have hp : pix_L0_p g D N S W H L (y * W + x) n = true := by unfold pix_L0_p; rw [h]; rfl
  have hv := (loop_of h).2
  change pix_L0_v g D N S W H L (y * W + x) n = _ at hv
  have w0 := ok.w0
  have q1 : decide (W ≠ 0) = true := decide_eq_true (by omega)
  have q2 : decide (0 ≤ n) = true := by rcases lev_cases ok.n with rfl | rfl | rfl | rfl | rfl <;> rfl
  unfold pix_res
  simp only [q1, q2, hp, hv, cond_true]
  rfl
theorem rpx_some : rpx_res D N S W H L x y n = some (pixS W H n D N S L x y) := by
  have h := rpx_sum ok hx hx' hy hy'
  have hp : rpx_L0_p D N S W H L x y n = true := by unfold rpx_L0_p; rw [h]; rfl
  have hv := (loop_of h).2
  change rpx_L0_v D N S W H L x y n = _ at hv
  have w1 : IntKind.i64.wrap (1 : Int) = 1 := by decide
  have w2 : IntKind.i64.wrap (2 : Int) = 2 := by decide
  have w3 : IntKind.i64.wrap (3 : Int) = 3 := by decide
  have h4 : iter (rpx_L4_step D N S W H L x y n) 4 (0, 0, 0, 0) = some (3, pixS W H n D N S L x y) := by
    simp only [iter, rpx_L4_step, hv]
    simp [w1, w2, w3, pixS]
  have hp4 : rpx_L4_p D N S W H L x y n = true := by unfold rpx_L4_p; rw [h4]; rfl
  have hv4 := (loop_of h4).2
  change rpx_L4_v D N S W H L x y n = _ at hv4
  unfold rpx_res
  simp only [ok.n, hp, hp4, hv4, cond_true]
end
end Go.Proofs.YtijidmcblpgfkaaDoor
