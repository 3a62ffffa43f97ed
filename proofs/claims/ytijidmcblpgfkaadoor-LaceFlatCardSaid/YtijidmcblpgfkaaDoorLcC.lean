/- A pixel, smoothed, plainly: both ways. No condition. -/
import Derived.Test.YtijidmcblpgfkaaDoorEngLc6
import Derived.Test.YtijidmcblpgfkaaDoorEngLc7
set_option linter.unusedVariables false
set_option linter.unusedSimpArgs false
namespace Go.Proofs.YtijidmcblpgfkaaDoor
open Go.RowKit

structure PixOk (W H n : Int) (D N S L : List (List Ct)) : Prop where
  w0 : 1 ≤ W
  w1 : W ≤ 64
  h0 : 1 ≤ H
  h1 : H ≤ 64
  n : levP n = true
  d : (D.length : Int) = W * H
  nn : (N.length : Int) = W * H
  s : (S.length : Int) = W * H
  l : (L.length : Int) = W * H
theorem idx_bd {W H u v : Int} (hu : 0 ≤ u) (hu' : u < W) (hv : 0 ≤ v) (hv' : v < H) : 0 ≤ v * W + u ∧ v * W + u < W * H := by
  have h1 : 0 ≤ v * W := Int.mul_nonneg hv (by omega)
  have h2 : v * W ≤ (H - 1) * W := Int.mul_le_mul_of_nonneg_right (by omega) (by omega)
  rw [Int.sub_mul, Int.one_mul, Int.mul_comm H W] at h2
  omega
theorem wh_bd {W H n : Int} {D N S L : List (List Ct)} (h : PixOk W H n D N S L) : W * H ≤ 4096 := by
  have : W * H ≤ 64 * 64 := Int.mul_le_mul h.w1 h.h1 (by have := h.h0; omega) (by omega)
  omega
theorem pow_bd {n : Int} (h : levP n = true) : 1 ≤ powS n ∧ powS n ≤ 16 := by
  rcases lev_cases h with rfl | rfl | rfl | rfl | rfl <;> decide
theorem pow_shl {n : Int} (h : levP n = true) : IntKind.i64.wrap ((1 : Int) * (2 : Int) ^ min n.toNat IntKind.i64.bits) = powS n := by
  rcases lev_cases h with rfl | rfl | rfl | rfl | rfl <;> decide
theorem step_bd {a p : Int} (ha : -2 ≤ a) (ha' : a ≤ 2) (hp : 1 ≤ p) (hp' : p ≤ 16) : -32 ≤ a * p ∧ a * p ≤ 32 := by
  have h1 : a * p ≤ 2 * p := Int.mul_le_mul_of_nonneg_right ha' (by omega)
  have h2 : -2 * p ≤ a * p := Int.mul_le_mul_of_nonneg_right ha (by omega)
  omega
/-- One neighbour. -/
noncomputable def accF (W H n : Int) (D N S L : List (List Ct)) (x y b a : Int) (t : Int × Int × Int × Int) : Int × Int × Int × Int :=
  bif (bif decide (x + a * powS n < 0) then true else bif decide (x + a * powS n ≥ W) then true else bif decide (y + b * powS n < 0) then true else decide (y + b * powS n ≥ H)) then t else
    (addS t.1 (weiS D N S L (y * W + x) ((y + b * powS n) * W + (x + a * powS n)) a b n),
     addS t.2.1 (mulS (rd L ((y + b * powS n) * W + (x + a * powS n)).toNat 0).int (weiS D N S L (y * W + x) ((y + b * powS n) * W + (x + a * powS n)) a b n)),
     addS t.2.2.1 (mulS (rd L ((y + b * powS n) * W + (x + a * powS n)).toNat 1).int (weiS D N S L (y * W + x) ((y + b * powS n) * W + (x + a * powS n)) a b n)),
     addS t.2.2.2 (mulS (rd L ((y + b * powS n) * W + (x + a * powS n)).toNat 2).int (weiS D N S L (y * W + x) ((y + b * powS n) * W + (x + a * powS n)) a b n)))
noncomputable def rowF (W H n : Int) (D N S L : List (List Ct)) (x y : Int) (r : Nat) (t : Int × Int × Int × Int) : Int × Int × Int × Int := nfold (fun c t => accF W H n D N S L x y ((r : Int) - 2) ((c : Int) - 2) t) 5 t
noncomputable def sumF (W H n : Int) (D N S L : List (List Ct)) (x y : Int) : Int × Int × Int × Int := nfold (rowF W H n D N S L x y) 5 (0, 0, 0, 0)
/-- The pixel. -/
noncomputable def pixS (W H n : Int) (D N S L : List (List Ct)) (x y : Int) : Int × Int × Int :=
  (divS (sumF W H n D N S L x y).2.1 (sumF W H n D N S L x y).1, divS (sumF W H n D N S L x y).2.2.1 (sumF W H n D N S L x y).1, divS (sumF W H n D N S L x y).2.2.2 (sumF W H n D N S L x y).1)
section
variable {W H n : Int} {D N S L : List (List Ct)} (ok : PixOk W H n D N S L) {x y : Int} (hx : 0 ≤ x) (hx' : x < W) (hy : 0 ≤ y) (hy' : y < H)
include ok hx hx' hy hy'
theorem in_all {k : Int} (h : 0 ≤ k ∧ k < W * H) : likP D N S (y * W + x) k = true ∧ inL (y * W + x) L = true ∧ inL k L = true := by
  have hi := idx_bd hx hx' hy hy'
  simp only [likP, inL, Bool.and_eq_true, decide_eq_true_eq, ok.d, ok.nn, ok.s, ok.l]
  omega
theorem wraps {a b : Int} (ha : -2 ≤ a) (ha' : a ≤ 2) (hb : -2 ≤ b) (hb' : b ≤ 2) : IntKind.i64.wrap (x + IntKind.i64.wrap (a * powS n)) = x + a * powS n ∧ IntKind.i64.wrap (y + IntKind.i64.wrap (b * powS n)) = y + b * powS n ∧
    (0 ≤ x + a * powS n → x + a * powS n < W → 0 ≤ y + b * powS n → y + b * powS n < H → IntKind.i64.wrap (IntKind.i64.wrap ((y + b * powS n) * W) + (x + a * powS n)) = (y + b * powS n) * W + (x + a * powS n)) := by
  have hp := pow_bd ok.n
  have h1 := step_bd ha ha' hp.1 hp.2
  have h2 := step_bd hb hb' hp.1 hp.2
  have w1 := ok.w1
  have h1' := ok.h1
  refine ⟨by rw [wrap_in (n := a * powS n) (by omega) (by omega)]; exact wrap_in (by omega) (by omega), by rw [wrap_in (n := b * powS n) (by omega) (by omega)]; exact wrap_in (by omega) (by omega), fun k1 k2 k3 k4 => ?_⟩
  have hi := idx_bd k1 k2 k3 k4
  have hwh := wh_bd ok
  generalize (y + b * powS n) * W = z at *
  rw [wrap_in (n := z) (by omega) (by omega)]
  exact wrap_in (by omega) (by omega)
theorem here : (y * W + x).tmod W = x ∧ IntKind.i64.wrap ((y * W + x).tdiv W) = y ∧ IntKind.i64.wrap (IntKind.i64.wrap (y * W) + x) = y * W + x := by
  have hi := idx_bd hx hx' hy hy'
  have hwh := wh_bd ok
  have w0 := ok.w0
  have w1 := ok.w1
  have h1 := ok.h1
  have e1 : (y * W + x) / W = y := by
    rw [Int.add_comm, Int.add_mul_ediv_right _ _ (by omega), Int.ediv_eq_zero_of_lt hx hx']; omega
  have e2 : (y * W + x) % W = x := by
    rw [Int.add_comm, Int.add_mul_emod_self_right]; exact Int.emod_eq_of_lt hx hx'
  refine ⟨by rw [Int.tmod_eq_emod_of_nonneg hi.1]; exact e2, by rw [Int.tdiv_eq_ediv_of_nonneg hi.1, e1]; exact wrap_in (by omega) (by omega), ?_⟩
  generalize y * W = z at *
  rw [wrap_in (n := z) (by omega) (by omega)]
  exact wrap_in (by omega) (by omega)
theorem pix_in {g : List (List Ct)} (hg : gtB g = true) {b : Int} (hb : -2 ≤ b) (hb' : b ≤ 2) {a : Int} (ha : -2 ≤ a) (ha' : a ≤ 2) (t : Int × Int × Int × Int) :
    pix_L2_step g D N S W H L (y * W + x) n b (t.1, a, t.2.1, t.2.2.1, t.2.2.2) = some (.inl ((accF W H n D N S L x y b a t).1, a + 1, (accF W H n D N S L x y b a t).2.1, (accF W H n D N S L x y b a t).2.2.1, (accF W H n D N S L x y b a t).2.2.2)) := by
  obtain ⟨e1, e2, e3⟩ := here ok hx hx' hy hy'
  obtain ⟨e4, e5, e6⟩ := wraps ok hx hx' hy hy' ha ha' hb hb'
  have e7 := pow_shl ok.n
  have e8 : IntKind.i64.wrap (a + 1) = a + 1 := wrap_in (by omega) (by omega)
  have q : decide (a ≤ 2) = true := decide_eq_true ha'
  simp only [pix_L2_step, pix_c30008913, pix_c30931991, pix_c58495629, e1, e2, e7, e4, e5, e8, q, cond_true]
  unfold accF
  cases ho : (bif decide (x + a * powS n < 0) then true else bif decide (x + a * powS n ≥ W) then true else bif decide (y + b * powS n < 0) then true else decide (y + b * powS n ≥ H)) with
  | true => rfl
  | false =>
    have hin : 0 ≤ x + a * powS n ∧ x + a * powS n < W ∧ 0 ≤ y + b * powS n ∧ y + b * powS n < H := by
      simp only [Bool.cond_true_left, Bool.or_eq_false_iff, decide_eq_false_iff_not] at ho
      omega
    have e9 := e6 hin.1 hin.2.1 hin.2.2.1 hin.2.2.2
    have hk := idx_bd hin.1 hin.2.1 hin.2.2.1 hin.2.2.2
    obtain ⟨p1, p2, p3⟩ := in_all ok hx hx' hy hy' hk
    have hw : weiP g D N S L (y * W + x) ((y + b * powS n) * W + (x + a * powS n)) a b n = true := by
      simp only [weiP, hg, p1, p2, p3, ok.n, two5, decide_eq_true (show -2 ≤ a ∧ a ≤ 2 from ⟨ha, ha'⟩), decide_eq_true (show -2 ≤ b ∧ b ≤ 2 from ⟨hb, hb'⟩), Bool.and_self]
    have hk' : decide ((0 : Int) ≤ (y + b * powS n) * W + (x + a * powS n) ∧ (y + b * powS n) * W + (x + a * powS n) < ((L.length : Nat) : Int)) = true := p3
    simp only [e9, hw, hk', cond_true, cond_false]
    rfl
theorem rpx_in {b : Int} (hb : -2 ≤ b) (hb' : b ≤ 2) {a : Int} (ha : -2 ≤ a) (ha' : a ≤ 2) (t : Int × Int × Int × Int) :
    rpx_L2_step D N S W H L x y n b (t.1, a, t.2.1, t.2.2.1, t.2.2.2) = some (.inl ((accF W H n D N S L x y b a t).1, a + 1, (accF W H n D N S L x y b a t).2.1, (accF W H n D N S L x y b a t).2.2.1, (accF W H n D N S L x y b a t).2.2.2)) := by
  obtain ⟨e1, e2, e3⟩ := here ok hx hx' hy hy'
  obtain ⟨e4, e5, e6⟩ := wraps ok hx hx' hy hy' ha ha' hb hb'
  have e7 : pow_v n = powS n := rfl
  have e8 : IntKind.i64.wrap (a + 1) = a + 1 := wrap_in (by omega) (by omega)
  have q : decide (a ≤ 2) = true := decide_eq_true ha'
  have ta : two5 a = true := decide_eq_true ⟨ha, ha'⟩
  have tb : two5 b = true := decide_eq_true ⟨hb, hb'⟩
  have et : IntKind.i64.wrap (tpo_v a * tpo_v b) = tapN a * tapN b := tap_wrap ta tb
  have e2p : IntKind.i64.wrap (2 * powS n) = 2 * powS n := by
    have := pow_bd ok.n
    exact wrap_in (by omega) (by omega)
  simp only [rpx_L2_step, e3, e7, e4, e5, e8, q, ta, tb, et, e2p, cond_true]
  unfold accF
  cases ho : (bif decide (x + a * powS n < 0) then true else bif decide (x + a * powS n ≥ W) then true else bif decide (y + b * powS n < 0) then true else decide (y + b * powS n ≥ H)) with
  | true => rfl
  | false =>
    have hin : 0 ≤ x + a * powS n ∧ x + a * powS n < W ∧ 0 ≤ y + b * powS n ∧ y + b * powS n < H := by
      simp only [Bool.cond_true_left, Bool.or_eq_false_iff, decide_eq_false_iff_not] at ho
      omega
    have e9 := e6 hin.1 hin.2.1 hin.2.2.1 hin.2.2.2
    have hk := idx_bd hin.1 hin.2.1 hin.2.2.1 hin.2.2.2
    obtain ⟨p1, p2, p3⟩ := in_all ok hx hx' hy hy' hk
    have p2' : decide ((0 : Int) ≤ y * W + x ∧ y * W + x < ((L.length : Nat) : Int)) = true := p2
    have p3' : decide ((0 : Int) ≤ (y + b * powS n) * W + (x + a * powS n) ∧ (y + b * powS n) * W + (x + a * powS n) < ((L.length : Nat) : Int)) = true := p3
    have w1 : rpx_c79903082 D N S W x y n b a = likS D N S (y * W + x) ((y + b * powS n) * W + (x + a * powS n)) := by
      simp only [rpx_c79903082, e7, e3, e4, e5, e9]; rfl
    have w2 : rpx_c36506418 W L x y n b a = hdif_v (rd L (y * W + x).toNat 0).int (rd L (y * W + x).toNat 1).int (rd L (y * W + x).toNat 2).int (rd L ((y + b * powS n) * W + (x + a * powS n)).toNat 0).int (rd L ((y + b * powS n) * W + (x + a * powS n)).toNat 1).int (rd L ((y + b * powS n) * W + (x + a * powS n)).toNat 2).int := by
      simp only [rpx_c36506418, e7, e3, e4, e5, e9]; exact qdif_is _ _ _ _ _ _
    have hwe : mulS (ofS (tapN a * tapN b)) (bif y * W + x != (y + b * powS n) * W + (x + a * powS n) then mulS (likS D N S (y * W + x) ((y + b * powS n) * W + (x + a * powS n))) (divS 65536 (addS 65536 (mulS (ofS (2 * powS n)) (hdif_v (rd L (y * W + x).toNat 0).int (rd L (y * W + x).toNat 1).int (rd L (y * W + x).toNat 2).int (rd L ((y + b * powS n) * W + (x + a * powS n)).toNat 0).int (rd L ((y + b * powS n) * W + (x + a * powS n)).toNat 1).int (rd L ((y + b * powS n) * W + (x + a * powS n)).toNat 2).int)))) else 65536) = weiS D N S L (y * W + x) ((y + b * powS n) * W + (x + a * powS n)) a b n := by
      unfold weiS
      by_cases hik : y * W + x = (y + b * powS n) * W + (x + a * powS n)
      · have : (y * W + x != (y + b * powS n) * W + (x + a * powS n)) = false := by simp [hik]
        rw [this, if_pos hik]; rfl
      · have : (y * W + x != (y + b * powS n) * W + (x + a * powS n)) = true := by simp [hik]
        rw [this, if_neg hik]; rfl
    have e10 : IntKind.i64.wrap (IntKind.i64.wrap ((y + b * powS n) * W) + (x + a * powS n)) = (y + b * powS n) * W + (x + a * powS n) := e9
    have w3 : ∀ t2 t3 t4, rpx_c17160010 D N S W L x y n b a t2 t3 t4 = (addS t2 (mulS (rd L ((y + b * powS n) * W + (x + a * powS n)).toNat 0).int (weiS D N S L (y * W + x) ((y + b * powS n) * W + (x + a * powS n)) a b n)), addS t3 (mulS (rd L ((y + b * powS n) * W + (x + a * powS n)).toNat 1).int (weiS D N S L (y * W + x) ((y + b * powS n) * W + (x + a * powS n)) a b n)), addS t4 (mulS (rd L ((y + b * powS n) * W + (x + a * powS n)).toNat 2).int (weiS D N S L (y * W + x) ((y + b * powS n) * W + (x + a * powS n)) a b n))) := fun t2 t3 t4 => by
      simp only [rpx_c17160010, rpx_c5384916, e7, e4, e5, e3, e9, w1, w2, et, e2p, hwe]
      rfl
    simp only [e9, w1, w2, w3, hwe, ok.n, p1, p2', p3', cond_true, cond_false, Bool.and_self, cond_same]
end
end Go.Proofs.YtijidmcblpgfkaaDoor
