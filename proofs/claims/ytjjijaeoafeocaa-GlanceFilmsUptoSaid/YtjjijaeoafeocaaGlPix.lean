/- Letters; a picture's lines. No condition but what bytes are. -/
import Derived.Test.YtjjijaeoafeocaaGlTimes
import Derived.Test.YtjjijaeoafeocaaGlSame
import Derived.Test.YtjjijaeoafeocaaEngGlR
set_option linter.unusedVariables false
set_option linter.unusedSimpArgs false
namespace Go.Proofs.Ytjjijaeoafeocaa
open Go.RowKit

theorem strOf_size (l : List (List Ct)) : (strOf l).size = l.length := by
  have h : ∀ (ns : List Int) (acc : ByteArray), (ns.foldl (fun r n => r.push (UInt8.ofNat n.toNat)) acc).size = acc.size + ns.length := by
    intro ns
    induction ns with
    | nil => intro acc; rfl
    | cons n ns ih => intro acc; simp only [List.foldl_cons, ih, ByteArray.size_push, List.length_cons]; omega
  unfold strOf
  rw [h, List.length_map]
  show 0 + l.length = l.length
  omega
theorem ltr_ok {a b c : Int} (a0 : 0 ≤ a) (a1 : a ≤ 255) (b0 : 0 ≤ b) (b1 : b ≤ 255) (c0 : 0 ≤ c) (c1 : c ≤ 255) : ltr_res a b c = some (ltr_v a b c) ∧ rlt_res a b c = some (ltr_v a b c) := by
  have k1 : IntKind.i64.wrap a = a := wrap_in (by omega) (by omega)
  have k2 : IntKind.i64.wrap b = b := wrap_in (by omega) (by omega)
  have k3 : IntKind.i64.wrap c = c := wrap_in (by omega) (by omega)
  have k4 : IntKind.i64.wrap ((2 : Int) * a) = 2 * a := wrap_in (by omega) (by omega)
  have k5 : IntKind.i64.wrap ((5 : Int) * b) = 5 * b := wrap_in (by omega) (by omega)
  have k6 : IntKind.i64.wrap (2 * a + 5 * b) = 2 * a + 5 * b := wrap_in (by omega) (by omega)
  have k7 : IntKind.i64.wrap (2 * a + 5 * b + c) = 2 * a + 5 * b + c := wrap_in (by omega) (by omega)
  have k8 : (2 * a + 5 * b + c).tdiv 8 = (2 * a + 5 * b + c) / 8 := Int.tdiv_eq_ediv_of_nonneg (by omega)
  have k9 : IntKind.i64.wrap ((2 * a + 5 * b + c) / 8) = (2 * a + 5 * b + c) / 8 := wrap_in (by omega) (by omega)
  have k10 : IntKind.i64.wrap ((2 * a + 5 * b + c) / 8 * 10) = (2 * a + 5 * b + c) / 8 * 10 := wrap_in (by omega) (by omega)
  have k11 : ((2 * a + 5 * b + c) / 8 * 10).tdiv 256 = (2 * a + 5 * b + c) / 8 * 10 / 256 := Int.tdiv_eq_ediv_of_nonneg (by omega)
  have k12 : IntKind.i64.wrap ((2 * a + 5 * b + c) / 8 * 10 / 256) = (2 * a + 5 * b + c) / 8 * 10 / 256 := wrap_in (by omega) (by omega)
  obtain ⟨n, hn, he⟩ : ∃ n : Nat, n < 10 ∧ (2 * a + 5 * b + c) / 8 * 10 / 256 = (n : Int) := ⟨((2 * a + 5 * b + c) / 8 * 10 / 256).toNat, by omega, by omega⟩
  unfold ltr_v
  unfold ltr_res rlt_res
  rw [k1, k2, k3, k4, k5, k6, k7, k8, k9, k10, k11, k12, he]
  clear he k1 k2 k3 k4 k5 k6 k7 k8 k9 k10 k11 k12
  match n, hn with
  | 0, _ => exact ⟨rfl, rfl⟩
  | 1, _ => exact ⟨rfl, rfl⟩
  | 2, _ => exact ⟨rfl, rfl⟩
  | 3, _ => exact ⟨rfl, rfl⟩
  | 4, _ => exact ⟨rfl, rfl⟩
  | 5, _ => exact ⟨rfl, rfl⟩
  | 6, _ => exact ⟨rfl, rfl⟩
  | 7, _ => exact ⟨rfl, rfl⟩
  | 8, _ => exact ⟨rfl, rfl⟩
  | 9, _ => exact ⟨rfl, rfl⟩
/-- The letter of the dot i. -/
noncomputable def Lt3 (D : List (List Ct)) (i : Nat) : Int := ltr_v (rd D i 0).int (rd D i 1).int (rd D i 2).int
noncomputable def rowL (D : List (List Ct)) (W y : Nat) (n : Nat) : List (List Ct) := tab (fun x => [.i (Lt3 D (y * W + x))]) n
noncomputable def linesL (D : List (List Ct)) (W n : Nat) : List (List Ct) := tab (fun y => [.s (strOf (rowL D W y W))]) n
def DotsB (D : List (List Ct)) : Prop := ∀ i, i < D.length → ∀ j, j < 3 → 0 ≤ (rd D i j).int ∧ (rd D i j).int ≤ 255
section
variable {D : List (List Ct)} {W H : Nat} (hD : DotsB D) (w0 : 1 ≤ W) (w1 : W ≤ 64) (h1 : H ≤ 64) (hl : D.length = W * H)
include hD w0 w1 h1 hl
omit hD w0 in
theorem at_ok {y x : Nat} (hy : y < H) (hx : x < W) : IntKind.i64.wrap (IntKind.i64.wrap ((y : Int) * (W : Int)) + (x : Int)) = ((y * W + x : Nat) : Int) ∧ y * W + x < D.length := by
  have a : y * W + W ≤ H * W := by have := Nat.mul_le_mul_right W (show y + 1 ≤ H by omega); rw [Nat.succ_mul] at this; exact this
  have b : H * W ≤ 64 * 64 := Nat.mul_le_mul h1 w1
  have m : (y : Int) * (W : Int) = ((y * W : Nat) : Int) := (Int.natCast_mul y W).symm
  have k : IntKind.i64.wrap ((y * W : Nat) : Int) = ((y * W : Nat) : Int) := wrap_in (by omega) (by omega)
  rw [m, k, wrap_in (by omega) (by omega), hl, Nat.mul_comm W H]
  exact ⟨by omega, by omega⟩
omit w0 in
theorem lt_ok {y x : Nat} (hy : y < H) (hx : x < W) : ltr_res (rd D (y * W + x) 0).int (rd D (y * W + x) 1).int (rd D (y * W + x) 2).int = some (Lt3 D (y * W + x)) ∧ rlt_res (rd D (y * W + x) 0).int (rd D (y * W + x) 1).int (rd D (y * W + x) 2).int = some (Lt3 D (y * W + x)) := by
  have q := (at_ok w1 h1 hl hy hx).2
  obtain ⟨a0, a1⟩ := hD _ q 0 (by omega)
  obtain ⟨b0, b1⟩ := hD _ q 1 (by omega)
  obtain ⟨c0, c1⟩ := hD _ q 2 (by omega)
  exact ltr_ok a0 a1 b0 b1 c0 c1
theorem gli_row {y : Nat} (hy : y < H) : iter (gli_L2_step (W : Int) D (y : Int)) 5001 none = some (.inr (((W - 1 : Nat) : Int), (W : Int), ((W - 1 : Nat) : Int), (W : Int), rowL D W y W)) := by
  obtain ⟨w, rfl⟩ : ∃ w, W = w + 1 := ⟨W - 1, by omega⟩
  refine iter_run (fun k => match k with | 0 => none | k + 1 => some ((k : Int), ((k + 1 : Nat) : Int), (k : Int), ((k + 1 : Nat) : Int), rowL D (w + 1) y (k + 1))) (n := w + 1) rfl (fun k hk => ?_) ?_ (by omega)
  · cases k with
    | zero =>
      obtain ⟨e1, e2⟩ := at_ok (x := 0) w1 h1 hl hy (by omega)
      obtain ⟨g1, _⟩ := lt_ok (x := 0) hD w1 h1 hl hy (by omega)
      have ec : gli_c66135 ((w + 1 : Nat) : Int) D (y : Int) = Lt3 D (y * (w + 1) + 0) := by
        unfold gli_c66135
        have e1' : IntKind.i64.wrap (IntKind.i64.wrap ((y : Int) * ((w + 1 : Nat) : Int)) + (0 : Int)) = ((y * (w + 1) + 0 : Nat) : Int) := e1
        rw [e1', Int.toNat_natCast]; rfl
      have e1' : IntKind.i64.wrap (IntKind.i64.wrap ((y : Int) * ((w + 1 : Nat) : Int)) + (0 : Int)) = ((y * (w + 1) + 0 : Nat) : Int) := e1
      simp only [gli_L2_step, ec, e1', Int.toNat_natCast]
      refine (cond_decI (by omega)).trans ?_
      refine (cond_decI (by omega)).trans ?_
      refine (congrArg (fun o => bif Option.isSome o then _ else none) g1).trans ?_
      refine (cond_true _ _).trans ?_
      refine (cond_decI (by simp only [List.length_cons, List.length_nil]; omega)).trans ?_
      rfl
    | succ k =>
      obtain ⟨e1, e2⟩ := at_ok (x := k + 1) w1 h1 hl hy (by omega)
      obtain ⟨g1, _⟩ := lt_ok (x := k + 1) hD w1 h1 hl hy (by omega)
      have ec : gli_c68970509 ((w + 1 : Nat) : Int) D (y : Int) ((k + 1 : Nat) : Int) = Lt3 D (y * (w + 1) + (k + 1)) := by
        unfold gli_c68970509
        rw [e1, Int.toNat_natCast]; rfl
      simp only [gli_L2_step, ec, e1, Int.toNat_natCast]
      refine (cond_decI (by omega)).trans ?_
      refine (cond_decI (by omega)).trans ?_
      refine (congrArg (fun o => bif Option.isSome o then _ else none) g1).trans ?_
      refine (cond_decI (by simp only [rowL, tab_length, List.length_cons, List.length_nil]; omega)).trans ?_
      rw [wrap_succ (by omega)]
      exact congrArg (fun z => some (Sum.inl (some (((k + 1 : Nat) : Int), ((k + 1 + 1 : Nat) : Int), ((k + 1 : Nat) : Int), ((k + 1 + 1 : Nat) : Int), z)))) (tab_succ _ (k + 1))
  · simp only [gli_L2_step]
    exact cond_notI (by omega)
theorem rli_row {y : Nat} (hy : y < H) : iter (rli_L2_step (W : Int) D (y : Int)) 5001 (0, []) = some ((W : Int), rowL D W y W) := by
  refine iter_run (fun k => ((k : Int), rowL D W y k)) (n := W) rfl (fun k hk => ?_) ?_ (by omega)
  · obtain ⟨e1, e2⟩ := at_ok (x := k) w1 h1 hl hy hk
    obtain ⟨_, g1⟩ := lt_ok (x := k) hD w1 h1 hl hy hk
    have ec : rli_c13588972 (W : Int) D (y : Int) (k : Int) = Lt3 D (y * W + k) := by
      unfold rli_c13588972 rlt_v
      rw [e1, Int.toNat_natCast, g1]
      rfl
    simp only [rli_L2_step, ec, e1, Int.toNat_natCast]
    refine (cond_decI (by omega)).trans ?_
    refine (cond_decI (by omega)).trans ?_
    refine (congrArg (fun o => bif Option.isSome o then _ else none) g1).trans ?_
    refine (cond_decI (by simp only [rowL, tab_length, List.length_cons, List.length_nil]; omega)).trans ?_
    rw [wrap_succ (by omega)]
    exact congrArg (fun z => some (Sum.inl (((k + 1 : Nat) : Int), z))) (tab_succ _ k)
  · simp only [rli_L2_step]
    exact cond_notI (by omega)
theorem gli_all : iter (gli_L0_step (W : Int) (H : Int) D) 5001 (0, []) = some ((H : Int), linesL D W H) := by
  refine iter_run (fun k => ((k : Int), linesL D W k)) (n := H) rfl (fun k hk => ?_) ?_ (by omega)
  · have i := gli_row hD w0 w1 h1 hl hk
    have p : gli_L2_p (W : Int) D (k : Int) = true := by unfold gli_L2_p; rw [i]; rfl
    have v : gli_L2_v (W : Int) D (k : Int) = .inr (((W - 1 : Nat) : Int), (W : Int), ((W - 1 : Nat) : Int), (W : Int), rowL D W k W) := by unfold gli_L2_v; rw [i]; rfl
    have rl : (rowL D W k W).length = W := tab_length _ _
    simp only [gli_L0_step, p, v, isL, getR, cond_true, cond_false]
    refine (cond_decI (by omega)).trans ?_
    refine (cond_decI (by rw [rl]; omega)).trans ?_
    refine (cond_decI ⟨trivial, by rw [rl]; omega⟩).trans ?_
    refine (cond_decI (by simp only [linesL, tab_length, List.length_cons, List.length_nil]; omega)).trans ?_
    rw [wrap_succ (by omega)]
    exact congrArg (fun z => some (Sum.inl (((k + 1 : Nat) : Int), z))) (tab_succ _ k)
  · simp only [gli_L0_step]
    exact cond_notI (by omega)
theorem rli_all : iter (rli_L0_step (W : Int) (H : Int) D) 5001 (0, []) = some ((H : Int), linesL D W H) := by
  refine iter_run (fun k => ((k : Int), linesL D W k)) (n := H) rfl (fun k hk => ?_) ?_ (by omega)
  · have i := rli_row hD w0 w1 h1 hl hk
    have p : rli_L2_p (W : Int) D (k : Int) = true := by unfold rli_L2_p; rw [i]; rfl
    have v : rli_L2_v (W : Int) D (k : Int) = ((W : Int), rowL D W k W) := by unfold rli_L2_v loopRes; rw [i]; rfl
    simp only [rli_L0_step, p, v, cond_true]
    refine (cond_decI (by omega)).trans ?_
    refine (cond_decI (by simp only [linesL, tab_length, List.length_cons, List.length_nil]; omega)).trans ?_
    rw [wrap_succ (by omega)]
    exact congrArg (fun z => some (Sum.inl (((k + 1 : Nat) : Int), z))) (tab_succ _ k)
  · simp only [rli_L0_step]
    exact cond_notI (by omega)
theorem rli_is : rli_res (W : Int) (H : Int) D = some (linesL D W H) := by
  have i := rli_all hD w0 w1 h1 hl
  have p : rli_L0_p (W : Int) (H : Int) D = true := by unfold rli_L0_p; rw [i]; rfl
  have v : rli_L0_v (W : Int) (H : Int) D = ((H : Int), linesL D W H) := by unfold rli_L0_v loopRes; rw [i]; rfl
  simp only [rli_res, p, v, cond_true]
theorem gli_is (h0 : 1 ≤ H) : gli_res (W : Int) (H : Int) D = some (0, linesL D W H) := by
  have i := gli_all hD w0 w1 h1 hl
  have p : gli_L0_p (W : Int) (H : Int) D = true := by unfold gli_L0_p; rw [i]; rfl
  have v : gli_L0_v (W : Int) (H : Int) D = ((H : Int), linesL D W H) := by unfold gli_L0_v loopRes; rw [i]; rfl
  have b : W * H ≤ 64 * 64 := Nat.mul_le_mul w1 h1
  have m : (W : Int) * (H : Int) = ((W * H : Nat) : Int) := (Int.natCast_mul W H).symm
  have r : pri_res (W : Int) (H : Int) D = some true := by
    unfold pri_res
    rw [decide_eq_true (show (W : Int) ≥ 1 by omega), decide_eq_true (show (W : Int) ≤ 64 by omega), decide_eq_true (show (H : Int) ≥ 1 by omega), decide_eq_true (show (H : Int) ≤ 64 by omega), m, wrap_in (by omega) (by omega), hl]
    simp
  have rv : pri_v (W : Int) (H : Int) D = true := by unfold pri_v; rw [r]; rfl
  simp only [gli_res, r, rv, p, v, Option.isSome_some, Bool.not_true, cond_true, cond_false]
end
end Go.Proofs.Ytjjijaeoafeocaa
