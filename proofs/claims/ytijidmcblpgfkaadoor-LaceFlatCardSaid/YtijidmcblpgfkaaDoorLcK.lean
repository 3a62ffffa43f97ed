/- A level never makes light brighter, and loses at most a unit. No condition. -/
import Derived.Test.YtijidmcblpgfkaaDoorLcJ
set_option linter.unusedVariables false
set_option linter.unusedSimpArgs false
namespace Go.Proofs.YtijidmcblpgfkaaDoor
open Go.RowKit

theorem heldS_nn {n : Int} (h : 0 ≤ n) : 0 ≤ heldS n := by unfold heldS; split <;> (try split) <;> omega
theorem heldS_ge {n m : Int} (h : m ≤ n) (hm : m ≤ 2147483648) (hm' : -2147483648 ≤ m) : m ≤ heldS n := by unfold heldS; split <;> (try split) <;> omega
theorem addS_nn {a b : Int} (ha : 0 ≤ a) (hb : 0 ≤ b) : 0 ≤ addS a b := by
  have := heldS_nn ha
  have := heldS_nn hb
  unfold addS
  exact heldS_nn (by omega)
theorem mulS_nn {a b : Int} (ha : 0 ≤ a) (hb : 0 ≤ b) : 0 ≤ mulS a b := by
  unfold mulS
  exact heldS_nn (Int.ediv_nonneg (Int.mul_nonneg (heldS_nn ha) (heldS_nn hb)) (by omega))
theorem mulS_one {a b : Int} (ha : 0 ≤ a) (ha' : a ≤ 65536) (hb : 0 ≤ b) (hb' : b ≤ 65536) : 0 ≤ mulS a b ∧ mulS a b ≤ 65536 := by
  refine ⟨mulS_nn ha hb, ?_⟩
  unfold mulS
  rw [heldS_id (n := a) (by omega) (by omega), heldS_id (n := b) (by omega) (by omega)]
  have h1 : a * b ≤ 65536 * 65536 := Int.mul_le_mul ha' hb' hb (by omega)
  have h0 : 0 ≤ a * b := Int.mul_nonneg ha hb
  rw [heldS_id (by omega) (by omega)]
  omega
theorem add_one {z : Int} (hz : 0 ≤ z) : 65536 ≤ addS 65536 z := by
  have := heldS_nn hz
  unfold addS
  rw [heldS_id (n := 65536) (by omega) (by omega)]
  exact heldS_ge (by omega) (by omega) (by omega)
theorem div_one {b : Int} (hb : 65536 ≤ b) : 0 ≤ divS 65536 b ∧ divS 65536 b ≤ 65536 := by
  have hb' : 65536 ≤ heldS b := heldS_ge hb (by omega) (by omega)
  unfold divS
  rw [if_neg (by omega), heldS_id (n := 65536) (by omega) (by omega), Int.fdiv_eq_ediv_of_nonneg _ (by omega)]
  have h0 : 0 ≤ (65536 * 65536 : Int) / heldS b := Int.ediv_nonneg (by omega) (by omega)
  have h1 : (65536 * 65536 : Int) / heldS b ≤ 65536 := Int.ediv_le_of_le_mul (by omega) (by
    have := Int.mul_le_mul_of_nonneg_left hb' (show (0 : Int) ≤ 65536 by omega)
    omega)
  rw [heldS_id (by omega) (by omega)]
  exact ⟨h0, h1⟩
theorem likS_bd (D N S : List (List Ct)) (i k : Int) : 0 ≤ likS D N S i k ∧ likS D N S i k ≤ 65536 := by
  unfold likS
  split
  · omega
  · split
    · omega
    · have h1 := unS_bd (addS (addS (addS (0 : Int) (mulS (rd N i.toNat 0).int (rd N k.toNat 0).int)) (mulS (rd N i.toNat 1).int (rd N k.toNat 1).int)) (mulS (rd N i.toNat 2).int (rd N k.toNat 2).int))
      have h2 := div_one (add_one (mulS_nn (a := 262144) (by omega) (absS_bd (subS (rd D i.toNat 0).int (rd D k.toNat 0).int)).1))
      exact mulS_one h1.1 h1.2 h2.1 h2.2
theorem neaS_bd {a0 a1 a2 b0 b1 b2 n : Int} (hn : levP n = true) : 0 ≤ neaS a0 a1 a2 b0 b1 b2 n ∧ neaS a0 a1 a2 b0 b1 b2 n ≤ 65536 := by
  unfold neaS
  have hp := pow_bd hn
  have h1 : 0 ≤ ofS (2 * powS n) := by unfold ofS; split <;> (try split) <;> omega
  have h2 : 0 ≤ hdif_v a0 a1 a2 b0 b1 b2 := by
    unfold hdif_v
    exact addS_nn (addS_nn (addS_nn (Int.le_refl _) (absS_bd _).1) (absS_bd _).1) (absS_bd _).1
  exact div_one (add_one (mulS_nn h1 h2))
theorem tap_bd {a b : Int} (ha : two5 a = true) (hb : two5 b = true) : 1 ≤ tapN a * tapN b ∧ tapN a * tapN b ≤ 36 := by
  rcases two5_cases ha with rfl | rfl | rfl | rfl | rfl <;> rcases two5_cases hb with rfl | rfl | rfl | rfl | rfl <;> decide
theorem tap_mul {t w : Int} (ht : 1 ≤ t) (ht' : t ≤ 36) (hw : 0 ≤ w) (hw' : w ≤ 65536) : mulS (ofS t) w = t * w := by
  unfold mulS ofS
  rw [if_neg (by omega), if_neg (by omega), heldS_id (n := t * 65536) (by omega) (by omega), heldS_id (n := w) (by omega) (by omega)]
  have h1 : t * w ≤ 36 * 65536 := Int.mul_le_mul ht' hw' hw (by omega)
  have h0 : 0 ≤ t * w := Int.mul_nonneg (by omega) hw
  have e : t * 65536 * w / 65536 = t * w := by
    rw [Int.mul_right_comm]
    exact Int.mul_ediv_cancel _ (by omega)
  rw [e]
  exact heldS_id (by omega) (by omega)
theorem weiS_bd {D N S L : List (List Ct)} {i k a b n : Int} (hn : levP n = true) (ha : two5 a = true) (hb : two5 b = true) : 0 ≤ weiS D N S L i k a b n ∧ weiS D N S L i k a b n ≤ 2359296 := by
  unfold weiS
  have ht := tap_bd ha hb
  have key : ∀ w : Int, 0 ≤ w → w ≤ 65536 → 0 ≤ mulS (ofS (tapN a * tapN b)) w ∧ mulS (ofS (tapN a * tapN b)) w ≤ 2359296 := fun w h0 h1 => by
    rw [tap_mul ht.1 ht.2 h0 h1]
    have h2 : tapN a * tapN b * w ≤ 36 * 65536 := Int.mul_le_mul ht.2 h1 h0 (by omega)
    exact ⟨Int.mul_nonneg (by omega) h0, by omega⟩
  split
  · exact key _ (by omega) (by omega)
  · have h1 := likS_bd D N S i k
    have h2 := neaS_bd (a0 := (rd L i.toNat 0).int) (a1 := (rd L i.toNat 1).int) (a2 := (rd L i.toNat 2).int) (b0 := (rd L k.toNat 0).int) (b1 := (rd L k.toNat 1).int) (b2 := (rd L k.toNat 2).int) hn
    have h3 := mulS_one h1.1 h1.2 h2.1 h2.2
    exact key _ h3.1 h3.2
theorem weiS_here {D N S L : List (List Ct)} {i n : Int} : weiS D N S L i i 0 0 n = 2359296 := by
  unfold weiS
  rw [if_pos rfl]
  decide
/-! ### One kind of light -/
structure Ch (lo hi : Int) (m : Int) (T s : Int) : Prop where
  t0 : 0 ≤ T
  t1 : T ≤ m * 2359296
  s0 : 0 ≤ s
  lo : lo * T - 65536 * m ≤ 65536 * s
  hi : 65536 * s ≤ hi * T
theorem Ch.more {lo hi m m' T s : Int} (h : Ch lo hi m T s) (hm : m ≤ m') : Ch lo hi m' T s :=
  ⟨h.t0, by have := h.t1; omega, h.s0, by have := h.lo; omega, h.hi⟩
theorem Ch.step {lo hi m T s l w : Int} (h : Ch lo hi m T s) (h0 : 0 ≤ lo) (hl : lo ≤ l) (hl' : l ≤ hi) (hh : hi ≤ 1048576) (hw : 0 ≤ w) (hw' : w ≤ 2359296) (hm : m ≤ 24) : Ch lo hi (m + 1) (addS T w) (addS s (mulS l w)) ∧ addS T w = T + w := by
  have t0 := h.t0
  have t1 := h.t1
  have s0 := h.s0
  have sl := h.lo
  have sh := h.hi
  have b1 : hi * T ≤ 1048576 * T := Int.mul_le_mul_of_nonneg_right hh t0
  have eT : addS T w = T + w := by
    unfold addS
    rw [heldS_id (n := T) (by omega) (by omega), heldS_id (n := w) (by omega) (by omega)]
    exact heldS_id (by omega) (by omega)
  have p0 : 0 ≤ l * w := Int.mul_nonneg (by omega) hw
  have p1 : l * w ≤ 1048576 * 2359296 := Int.mul_le_mul (by omega) hw' hw (by omega)
  have p2 : lo * w ≤ l * w := Int.mul_le_mul_of_nonneg_right hl hw
  have p3 : l * w ≤ hi * w := Int.mul_le_mul_of_nonneg_right hl' hw
  have em : mulS l w = l * w / 65536 := by
    unfold mulS
    rw [heldS_id (n := l) (by omega) (by omega), heldS_id (n := w) (by omega) (by omega)]
    exact heldS_id (by omega) (by omega)
  have es : addS s (mulS l w) = s + l * w / 65536 := by
    rw [em]
    unfold addS
    rw [heldS_id (n := s) (by omega) (by omega), heldS_id (n := l * w / 65536) (by omega) (by omega)]
    exact heldS_id (by omega) (by omega)
  refine ⟨?_, eT⟩
  rw [eT, es]
  refine ⟨by omega, by omega, by omega, ?_, ?_⟩
  · have := Int.mul_add lo T w; omega
  · have := Int.mul_add hi T w; omega
/-- What comes of it. -/
theorem Ch.out {lo hi T s : Int} (h : Ch lo hi 25 T s) (h0 : 0 ≤ lo) (hh : hi ≤ 1048576) (hT : 2359296 ≤ T) : lo - 1 ≤ divS s T ∧ divS s T ≤ hi ∧ 0 ≤ divS s T := by
  have t1 := h.t1
  have s0 := h.s0
  have sl := h.lo
  have sh := h.hi
  have b1 : hi * T ≤ 1048576 * T := Int.mul_le_mul_of_nonneg_right hh (by omega)
  have e : divS s T = s * 65536 / T := by
    have hq : 0 ≤ s * 65536 / T ∧ s * 65536 / T ≤ 1048576 := ⟨Int.ediv_nonneg (by omega) (by omega), Int.ediv_le_of_le_mul (by omega) (by omega)⟩
    unfold divS
    rw [heldS_id (n := s) (by omega) (by omega), heldS_id (n := T) (by omega) (by omega), if_neg (by omega), Int.fdiv_eq_ediv_of_nonneg _ (by omega)]
    exact heldS_id (by omega) (by omega)
  rw [e]
  refine ⟨?_, Int.ediv_le_of_le_mul (by omega) (by omega), Int.ediv_nonneg (by omega) (by omega)⟩
  rw [Int.le_ediv_iff_mul_le (by omega), Int.sub_mul]
  omega
def chL (t : Int × Int × Int × Int) : Nat → Int
  | 0 => t.2.1
  | 1 => t.2.2.1
  | _ => t.2.2.2
/-- All light lies between. -/
def Held3 (lo hi : Nat → Int) (l : List (List Ct)) : Prop := ∀ i, i < l.length → ∀ c, c < 3 → lo c ≤ (rd l i c).int ∧ (rd l i c).int ≤ hi c
section
variable {W H n : Int} {D N S L : List (List Ct)} (ok : PixOk W H n D N S L) {lo hi : Nat → Int} (h0 : ∀ c, c < 3 → 0 ≤ lo c) (hh : ∀ c, c < 3 → hi c ≤ 1048576) (hL : Held3 lo hi L) {x y : Int}
include ok h0 hh hL
theorem acc_ok {b a : Int} (ha : two5 a = true) (hb : two5 b = true) {m : Int} (hm : m ≤ 24) {t : Int × Int × Int × Int} (ht : ∀ c, c < 3 → Ch (lo c) (hi c) m t.1 (chL t c)) :
    (∀ c, c < 3 → Ch (lo c) (hi c) (m + 1) (accF W H n D N S L x y b a t).1 (chL (accF W H n D N S L x y b a t) c)) ∧ t.1 ≤ (accF W H n D N S L x y b a t).1 := by
  unfold accF
  cases ho : (bif decide (x + a * powS n < 0) then true else bif decide (x + a * powS n ≥ W) then true else bif decide (y + b * powS n < 0) then true else decide (y + b * powS n ≥ H)) with
  | true => exact ⟨fun c hc => (ht c hc).more (by omega), Int.le_refl _⟩
  | false =>
    have hin : 0 ≤ x + a * powS n ∧ x + a * powS n < W ∧ 0 ≤ y + b * powS n ∧ y + b * powS n < H := by
      simp only [Bool.cond_true_left, Bool.or_eq_false_iff, decide_eq_false_iff_not] at ho
      omega
    have hk := idx_bd hin.1 hin.2.1 hin.2.2.1 hin.2.2.2
    have hw := weiS_bd (D := D) (N := N) (S := S) (L := L) (i := y * W + x) (k := (y + b * powS n) * W + (x + a * powS n)) ok.n ha hb
    have hki : ((y + b * powS n) * W + (x + a * powS n)).toNat < L.length := by
      have := ok.l
      omega
    have step : ∀ c, c < 3 → ∀ s, s = chL t c → Ch (lo c) (hi c) (m + 1) (addS t.1 (weiS D N S L (y * W + x) ((y + b * powS n) * W + (x + a * powS n)) a b n)) (addS s (mulS (rd L ((y + b * powS n) * W + (x + a * powS n)).toNat c).int (weiS D N S L (y * W + x) ((y + b * powS n) * W + (x + a * powS n)) a b n))) ∧
        addS t.1 (weiS D N S L (y * W + x) ((y + b * powS n) * W + (x + a * powS n)) a b n) = t.1 + weiS D N S L (y * W + x) ((y + b * powS n) * W + (x + a * powS n)) a b n := fun c hc s hs => by
      subst hs
      have hl := hL _ hki c hc
      exact (ht c hc).step (h0 c hc) hl.1 hl.2 (hh c hc) hw.1 hw.2 hm
    simp only [cond_false]
    refine ⟨fun c hc => ?_, ?_⟩
    · have hc' : c = 0 ∨ c = 1 ∨ c = 2 := by omega
      rcases hc' with rfl | rfl | rfl
      · exact (step 0 hc _ rfl).1
      · exact (step 1 hc _ rfl).1
      · exact (step 2 hc _ rfl).1
    · rw [(step 0 (by omega) _ rfl).2]; omega
theorem row_ok {r : Nat} (hr : r < 5) {t : Int × Int × Int × Int} (ht : ∀ c, c < 3 → Ch (lo c) (hi c) (5 * r) t.1 (chL t c)) :
    (∀ c, c < 3 → Ch (lo c) (hi c) (5 * ((r : Int) + 1)) (rowF W H n D N S L x y r t).1 (chL (rowF W H n D N S L x y r t) c)) ∧ t.1 ≤ (rowF W H n D N S L x y r t).1 := by
  have key : ∀ k : Nat, k ≤ 5 → (∀ c, c < 3 → Ch (lo c) (hi c) (5 * r + k) (nfold (fun c t => accF W H n D N S L x y ((r : Int) - 2) ((c : Int) - 2) t) k t).1 (chL (nfold (fun c t => accF W H n D N S L x y ((r : Int) - 2) ((c : Int) - 2) t) k t) c)) ∧ t.1 ≤ (nfold (fun c t => accF W H n D N S L x y ((r : Int) - 2) ((c : Int) - 2) t) k t).1 := by
    intro k
    induction k with
    | zero => intro _; exact ⟨fun c hc => (ht c hc).more (by simp), Int.le_refl _⟩
    | succ k ih =>
      intro hk
      obtain ⟨i1, i2⟩ := ih (by omega)
      have := acc_ok ok h0 hh hL (x := x) (y := y) (b := (r : Int) - 2) (a := (k : Int) - 2) (decide_eq_true ⟨by omega, by omega⟩) (decide_eq_true ⟨by omega, by omega⟩) (m := 5 * r + k) (by omega) i1
      exact ⟨fun c hc => (this.1 c hc).more (by omega), Int.le_trans i2 this.2⟩
  obtain ⟨k1, k2⟩ := key 5 (Nat.le_refl _)
  exact ⟨fun c hc => (k1 c hc).more (by omega), k2⟩
theorem row_mid (hx : 0 ≤ x) (hx' : x < W) (hy : 0 ≤ y) (hy' : y < H) {t : Int × Int × Int × Int} (ht : ∀ c, c < 3 → Ch (lo c) (hi c) 10 t.1 (chL t c)) : 2359296 ≤ (rowF W H n D N S L x y 2 t).1 := by
  have st : ∀ (k : Nat) (m : Int) (t : Int × Int × Int × Int), k < 5 → m ≤ 24 → (∀ c, c < 3 → Ch (lo c) (hi c) m t.1 (chL t c)) → (∀ c, c < 3 → Ch (lo c) (hi c) (m + 1) (accF W H n D N S L x y 0 ((k : Int) - 2) t).1 (chL (accF W H n D N S L x y 0 ((k : Int) - 2) t) c)) ∧ t.1 ≤ (accF W H n D N S L x y 0 ((k : Int) - 2) t).1 :=
    fun k m t hk hm ht => acc_ok ok h0 hh hL (decide_eq_true ⟨by omega, by omega⟩) (by decide) hm ht
  have e : rowF W H n D N S L x y 2 t = accF W H n D N S L x y 0 2 (accF W H n D N S L x y 0 1 (accF W H n D N S L x y 0 0 (accF W H n D N S L x y 0 (-1) (accF W H n D N S L x y 0 (-2) t)))) := rfl
  obtain ⟨a1, b1⟩ := st 0 10 t (by omega) (by omega) ht
  obtain ⟨a2, b2⟩ := st 1 11 _ (by omega) (by omega) a1
  obtain ⟨a3, b3⟩ := st 2 12 _ (by omega) (by omega) a2
  obtain ⟨a4, b4⟩ := st 3 13 _ (by omega) (by omega) a3
  obtain ⟨a5, b5⟩ := st 4 14 _ (by omega) (by omega) a4
  rw [e]
  have c3 : ∀ u : Int × Int × Int × Int, (∀ c, c < 3 → Ch (lo c) (hi c) 12 u.1 (chL u c)) → 2359296 ≤ (accF W H n D N S L x y 0 0 u).1 := fun u hu => by
    unfold accF
    have z : x + 0 * powS n = x := by omega
    have z' : y + 0 * powS n = y := by omega
    rw [z, z', weiS_here]
    have ho : (bif decide (x < 0) then true else bif decide (x ≥ W) then true else bif decide (y < 0) then true else decide (y ≥ H)) = false := by
      rw [decide_eq_false (by omega), decide_eq_false (by omega), decide_eq_false (by omega), decide_eq_false (by omega)]; rfl
    rw [ho]
    have hl := hL (y * W + x).toNat (by have := ok.l; have := idx_bd hx hx' hy hy'; omega) 0 (by omega)
    have h1 := (hu 0 (by omega)).step (h0 0 (by omega)) hl.1 hl.2 (hh 0 (by omega)) (w := 2359296) (by omega) (by omega) (by omega)
    show 2359296 ≤ addS u.1 2359296
    rw [h1.2]
    have := (hu 0 (by omega)).t0
    omega
  have h3 := c3 _ a2
  exact Int.le_trans h3 (Int.le_trans b4 b5)
theorem pix_held (hx : 0 ≤ x) (hx' : x < W) (hy : 0 ≤ y) (hy' : y < H) : ∀ c, c < 3 → lo c - 1 ≤ ((pixR W H n D N S L x y).getD c (.i 0)).int ∧ ((pixR W H n D N S L x y).getD c (.i 0)).int ≤ hi c ∧ 0 ≤ ((pixR W H n D N S L x y).getD c (.i 0)).int := by
  have st : ∀ (r : Nat) (t : Int × Int × Int × Int), r < 5 → (∀ c, c < 3 → Ch (lo c) (hi c) (5 * r) t.1 (chL t c)) → (∀ c, c < 3 → Ch (lo c) (hi c) (5 * ((r : Int) + 1)) (rowF W H n D N S L x y r t).1 (chL (rowF W H n D N S L x y r t) c)) ∧ t.1 ≤ (rowF W H n D N S L x y r t).1 :=
    fun r t hr ht => row_ok ok h0 hh hL hr ht
  have z0 : ∀ c, c < 3 → Ch (lo c) (hi c) 0 ((0, 0, 0, 0) : Int × Int × Int × Int).1 (chL (0, 0, 0, 0) c) := fun c hc => by
    have hc' : c = 0 ∨ c = 1 ∨ c = 2 := by omega
    rcases hc' with rfl | rfl | rfl <;> exact ⟨by simp, by simp, by simp [chL], by simp [chL], by simp [chL]⟩
  obtain ⟨a1, b1⟩ := st 0 (0, 0, 0, 0) (by omega) z0
  obtain ⟨a2, b2⟩ := st 1 _ (by omega) a1
  have mid := row_mid ok h0 hh hL hx hx' hy hy' a2
  obtain ⟨a3, b3⟩ := st 2 _ (by omega) a2
  obtain ⟨a4, b4⟩ := st 3 _ (by omega) a3
  obtain ⟨a5, b5⟩ := st 4 _ (by omega) a4
  have e : sumF W H n D N S L x y = rowF W H n D N S L x y 4 (rowF W H n D N S L x y 3 (rowF W H n D N S L x y 2 (rowF W H n D N S L x y 1 (rowF W H n D N S L x y 0 (0, 0, 0, 0))))) := rfl
  have hT : 2359296 ≤ (sumF W H n D N S L x y).1 := by rw [e]; exact Int.le_trans mid (Int.le_trans b4 b5)
  intro c hc
  have hch : Ch (lo c) (hi c) 25 (sumF W H n D N S L x y).1 (chL (sumF W H n D N S L x y) c) := by rw [e]; exact a5 c hc
  have ho := hch.out (h0 c hc) (hh c hc) hT
  have hc' : c = 0 ∨ c = 1 ∨ c = 2 := by omega
  rcases hc' with rfl | rfl | rfl <;> exact ho
theorem lev_held : Held3 (fun c => max 0 (lo c - 1)) hi (levT W H n D N S L) := by
  intro i hi' c hc
  have hl : (levT W H n D N S L).length = L.length := by unfold levT; exact tab_length _ _
  rw [hl] at hi'
  have w0 := ok.w0
  have hln := ok.l
  have a1 := Int.emod_nonneg (i : Int) (show W ≠ 0 by omega)
  have a2 := Int.emod_lt_of_pos (i : Int) (show 0 < W by omega)
  have a3 : 0 ≤ (i : Int) / W := Int.ediv_nonneg (by omega) (by omega)
  have a4 : (i : Int) / W < H := Int.ediv_lt_of_lt_mul (by omega) (by rw [Int.mul_comm]; omega)
  have := pix_held ok h0 hh hL a1 a2 a3 a4 c hc
  unfold levT
  rw [rd_tab hi']
  simp only
  omega
end
end Go.Proofs.YtijidmcblpgfkaaDoor
