/- The law OrbitBack: it answers true for all values of bulk. The bound is the statement's own. -/
import Derived.Test.YtigjlhhglhbbpaaOrbitTurns2
import Derived.Test.YtigjlhhglhbbpaaOrbitBackT
set_option linter.unusedVariables false
set_option linter.unusedSimpArgs false
namespace Go.Proofs.Ytigjlhhglhbbpaa
open Go.RowKit

theorem right_mono {w : Int} {l : List (List Ct)} (h : RightT w l) : ∀ {i j : Nat}, i < j → j < l.length → (rd l i 0).int < (rd l j 0).int := by
  intro i j
  induction j with
  | zero => intro h1; omega
  | succ j ih =>
    intro h1 h2
    have := (h.ok (j + 1) h2).up (by omega)
    rw [Nat.add_sub_cancel] at this
    by_cases hij : i = j
    · subst hij; exact this
    · have := ih (by omega) (by omega); omega
theorem right_strict {w : Int} {l : List (List Ct)} (h : RightT w l) : Strict (kOf l) := by
  rw [Strict, List.pairwise_iff_getElem]
  intro i j hi hj hij
  have e1 := kOf_rd (l := l) (i := i) (by rw [← kOf_length (l := l)]; exact hi)
  have e2 := kOf_rd (l := l) (i := j) (by rw [← kOf_length (l := l)]; exact hj)
  rw [List.getElem?_eq_getElem hi] at e1
  rw [List.getElem?_eq_getElem hj] at e2
  rw [Option.some.inj e1, Option.some.inj e2]
  exact right_mono h hij (by rw [← kOf_length (l := l)]; exact hj)
/-- A track of keys that may be is made of them. -/
theorem make_right {w : Int} {a : List (List Ct)} (h : RightT w a) : ∃ r, tmk_res w a = some (w, 0, r) ∧ tmk_v w a = (w, 0, r) ∧ kOf r = kOf a ∧ RightT w r := by
  have hn := h.n0
  have hn1 := h.n1
  obtain ⟨L, l1, l2, l3⟩ := stb_few (l := a) (by omega) (by omega)
  have hL : L.length = a.length := by rw [← kOf_length (l := L), l3, srtA_length, kOf_length]
  have q0 : 0 < a.length := by omega
  have q1 : 0 + a.length ≤ 9223372036854775807 ∧ (0 + a.length) * 32 ≤ 140737488355328 := by omega
  obtain ⟨c, r, g1, g2⟩ := tmk_it (x1 := a) (L := L) (by rw [List.nil_append]; exact l2) (by omega) L.length 0 [] (a.length + 1) (by omega) (by omega) (by simp)
  rw [show ((0 : Nat) : Int) = 0 from rfl] at g1
  have hr : kOf r = kOf a := by
    rw [g2, List.drop_zero, l3, srt_both, srtU_strict_id (right_strict h)]; rfl
  have hR : RightT w r := (RightT.same (same4_of hr)).2 h
  have p1 : tmk_L0_p a = true := by unfold tmk_L0_p; rw [g1]; rfl
  have p2 : (tmk_L0_v a).2 = r := by unfold tmk_L0_v loopRes; rw [g1]; rfl
  obtain ⟨b1, ⟨t1, t2⟩, t3⟩ := trt_is (w := w) (l := r)
  obtain rfl : b1 = true := t3.2 hR
  have e1 : tmk_res w a = some (w, 0, r) := by
    unfold tmk_res
    simp only [cond_dec q0, cond_dec q1, List.nil_append, l1, Option.isSome_some, p1, p2, t1, t2, cond_true, Bool.not_true, cond_false]
  exact ⟨r, e1, by unfold tmk_v; rw [e1]; rfl, hr, hR⟩
/-- The keys, from the end on. -/
structure BackOf (P r : List (List Ct)) : Prop where
  l : r.length = P.length
  t : ∀ i, i < P.length → (rd r i 0).int = (rd P 0 0).int + (rd P (P.length - 1) 0).int - (rd P (P.length - 1 - i) 0).int
  v : ∀ i, i < P.length → ∀ j, 1 ≤ j → j < 4 → (rd r i j).int = (rd P (P.length - 1 - i) j).int
theorem right_ends {w : Int} {P : List (List Ct)} (h : RightT w P) : ∀ i, i < P.length → (rd P 0 0).int ≤ (rd P i 0).int ∧ (rd P i 0).int ≤ (rd P (P.length - 1) 0).int := by
  intro i hi
  constructor
  · by_cases h0 : i = 0
    · subst h0; omega
    · have := right_mono h (i := 0) (j := i) (by omega) hi; omega
  · by_cases h0 : i = P.length - 1
    · subst h0; omega
    · have := right_mono h (i := i) (j := P.length - 1) (by omega) (by omega); omega
theorem back_right {w : Int} {P : List (List Ct)} (h : RightT w P) : ∃ r, oba_res w P = some (w, 0, r) ∧ oba_v w P = (w, 0, r) ∧ BackOf P r ∧ RightT w r := by
  have hn := h.n0
  have hn1 := h.n1
  obtain ⟨a1, a2⟩ := oba_rows (P := P) (by omega) (by omega)
  have hO : (oba_L0_v P).2.length = P.length := by rw [← kOf_length, a2, mapI_length, kOf_length]
  obtain ⟨p, p1, p2, p3⟩ := srv_ok (P := (oba_L0_v P).2) (by omega) (by omega)
  have hp : p.length = P.length := by rw [← kOf_length, p3, List.length_reverse, kOf_length, hO]
  have cell : ∀ i, i < P.length → ((rd p i 0).int, (rd p i 1).int, (rd p i 2).int, (rd p i 3).int) = baF (rd P 0 0).int (rd P (P.length - 1) 0).int (P.length - 1 - i) ((rd P (P.length - 1 - i) 0).int, (rd P (P.length - 1 - i) 1).int, (rd P (P.length - 1 - i) 2).int, (rd P (P.length - 1 - i) 3).int) := by
    intro i hi
    have e := kOf_rd (l := p) (i := i) (by omega)
    rw [p3, List.getElem?_reverse (by rw [kOf_length, hO]; exact hi), kOf_length, hO, a2, mapI_get, kOf_rd (by omega), Nat.zero_add] at e
    exact (Option.some.inj e).symm
  have tb : ∀ i, i < P.length → 0 ≤ (rd P i 0).int ∧ (rd P i 0).int ≤ 2097152 := fun i hi => ⟨(h.ok i hi).t0, (h.ok i hi).t1⟩
  have b0 := tb 0 (by omega)
  have bn := tb (P.length - 1) (by omega)
  have B : BackOf P p := by
    refine ⟨hp, fun i hi => ?_, fun i hi j h1 h4 => ?_⟩
    · have := cell i hi
      simp only [baF, Prod.mk.injEq] at this
      have bi := tb (P.length - 1 - i) (by omega)
      rw [this.1, wrap_in (n := (rd P 0 0).int + (rd P (P.length - 1) 0).int) (by omega) (by omega), wrap_in (by omega) (by omega)]
    · have := cell i hi
      simp only [baF, Prod.mk.injEq] at this
      have c : j = 1 ∨ j = 2 ∨ j = 3 := by omega
      rcases c with rfl | rfl | rfl
      · exact this.2.1
      · exact this.2.2.1
      · exact this.2.2.2
  have hR : RightT w p := by
    refine ⟨h.w0, h.w1, by omega, by omega, fun i hi => ?_⟩
    rw [hp] at hi
    have bi := right_ends h (P.length - 1 - i) (by omega)
    refine ⟨by rw [B.t i hi]; omega, by rw [B.t i hi]; omega, fun h0 => ?_, fun j h1 h4 => ?_⟩
    · rw [B.t i hi, B.t (i - 1) (by omega)]
      have := right_mono h (i := P.length - 1 - i) (j := P.length - 1 - (i - 1)) (by omega) (by omega)
      omega
    · rw [B.v i hi j h1 h4]; exact (h.ok (P.length - 1 - i) (by omega)).v j h1 h4
  obtain ⟨r, t1, t2, t3, t4⟩ := make_right hR
  obtain ⟨b1, ⟨s1, s2⟩, s3⟩ := trt_is (w := w) (l := P)
  obtain rfl : b1 = true := s3.2 h
  have q0 : 0 < P.length := by omega
  have q1 : 0 + P.length ≤ 9223372036854775807 ∧ (0 + P.length) * 32 ≤ 140737488355328 := by omega
  have q2 : (0 : Int) ≤ 0 ∧ (0 : Int) < (P.length : Int) := by omega
  have w1 : IntKind.i64.wrap ((P.length : Int) - 1) = (P.length : Int) - 1 := wrap_in (by omega) (by omega)
  have q3 : (0 : Int) ≤ (P.length : Int) - 1 ∧ (P.length : Int) - 1 < (P.length : Int) := by omega
  have e1 : oba_res w P = some (w, 0, r) := by
    simp only [oba_res, s1, s2, Bool.not_true, cond_true, cond_false, cond_dec q0, cond_dec q1, List.nil_append, cond_dec q2, w1, cond_dec q3, a1, p1, p2, t1, t2, Option.isSome_some]
  have hs := same4_of t3
  refine ⟨r, e1, by unfold oba_v; rw [e1]; rfl, ⟨by rw [hs.len, hp], fun i hi => by rw [hs.at' i (by omega) 0 (by omega)]; exact B.t i hi, fun i hi j h1 h4 => by rw [hs.at' i (by omega) j h4]; exact B.v i hi j h1 h4⟩, t4⟩
theorem back_twice {w : Int} {P r q : List (List Ct)} (h : RightT w P) (h1 : BackOf P r) (h2 : BackOf r q) : kOf q = kOf P := by
  have hn := h.n0
  have hl := h1.l
  refine kOf_ext (n := P.length) (by rw [h2.l, h1.l]) rfl (fun i hi j hj => ?_)
  by_cases h0 : j = 0
  · subst h0
    rw [h2.t i (by omega), h1.t 0 (by omega), h1.t (r.length - 1) (by omega), h1.t (r.length - 1 - i) (by omega), hl]
    rw [show P.length - 1 - 0 = P.length - 1 by omega, show P.length - 1 - (P.length - 1) = 0 by omega, show P.length - 1 - (P.length - 1 - i) = i by omega]
    omega
  · rw [h2.v i (by omega) j (by omega) hj, h1.v (r.length - 1 - i) (by omega) j (by omega) hj, hl, show P.length - 1 - (P.length - 1 - i) = i by omega]
/-! ### The way is as long from the end on -/
def sumN (f : Nat → Int) : Nat → Int
  | 0 => 0
  | k + 1 => sumN f k + f k
theorem sumN_head (f : Nat → Int) : ∀ m, sumN f (m + 1) = f 0 + sumN (fun k => f (k + 1)) m := by
  intro m
  induction m with
  | zero => simp [sumN]
  | succ m ih => rw [sumN, ih, sumN]; omega
theorem sumN_congr {f g : Nat → Int} : ∀ {m}, (∀ k, k < m → f k = g k) → sumN f m = sumN g m := by
  intro m
  induction m with
  | zero => intro _; rfl
  | succ m ih => intro h; simp only [sumN, h m (by omega), ih fun k hk => h k (by omega)]
theorem sumN_rev (f : Nat → Int) : ∀ m, sumN (fun k => f (m - 1 - k)) m = sumN f m := by
  intro m
  induction m with
  | zero => rfl
  | succ m ih =>
    rw [sumN_head, sumN]
    rw [sumN_congr (g := fun k => f (m - 1 - k)) (fun k hk => by show f (m + 1 - 1 - (k + 1)) = f (m - 1 - k); congr 1; omega), ih]
    show f (m + 1 - 1 - 0) + _ = _
    rw [show m + 1 - 1 - 0 = m by omega]
    omega
theorem wayS_sum {x : List (List Ct)} : ∀ k, k ≤ 16 → wayS x k = sumN (legS x) k ∧ 0 ≤ wayS x k ∧ wayS x k ≤ 16777216 * (k : Int) := by
  intro k
  induction k with
  | zero => intro _; exact ⟨rfl, by simp [wayS], by simp [wayS]⟩
  | succ k ih =>
    intro hk
    obtain ⟨h1, h2, h3⟩ := ih (by omega)
    have hb := rootS_bd (addS (addS (addS 0 (mulS (subS (rd x (k + 1) 1).int (rd x k 1).int) (subS (rd x (k + 1) 1).int (rd x k 1).int))) (mulS (subS (rd x (k + 1) 2).int (rd x k 2).int) (subS (rd x (k + 1) 2).int (rd x k 2).int))) (mulS (subS (rd x (k + 1) 3).int (rd x k 3).int) (subS (rd x (k + 1) 3).int (rd x k 3).int)))
    change 0 ≤ legS x k ∧ legS x k < 16777216 at hb
    have e : wayS x (k + 1) = wayS x k + legS x k := by
      show addS (wayS x k) (legS x k) = _
      unfold addS
      rw [heldS_id (n := wayS x k) (by omega) (by omega), heldS_id (n := legS x k) (by omega) (by omega), heldS_id (by omega) (by omega)]
    exact ⟨by rw [e, h1]; rfl, by omega, by omega⟩
theorem sq_comm (a b : Int) : mulS (subS a b) (subS a b) = mulS (subS b a) (subS b a) := by
  have e : subS a b = -subS b a := by
    unfold subS
    generalize heldS a = u
    generalize heldS b = v
    unfold heldS
    split <;> (try split) <;> (try split) <;> (try split) <;> omega
  have n : ∀ z : Int, -2147483648 ≤ z → z ≤ 2147483648 → mulS (-z) (-z) = mulS z z := by
    intro z h1 h2
    unfold mulS
    rw [heldS_id (n := -z) (by omega) (by omega), heldS_id (n := z) h1 h2, Int.neg_mul_neg]
  rw [e, n _ (subS_bd b a).1 (subS_bd b a).2]
theorem leg_back {P r : List (List Ct)} (h : BackOf P r) {k : Nat} (hk : k + 1 < P.length) : legS r k = legS P (P.length - 1 - 1 - k) := by
  have e : ∀ j, 1 ≤ j → j < 4 → (rd r (k + 1) j).int = (rd P (P.length - 1 - 1 - k) j).int ∧ (rd r k j).int = (rd P (P.length - 1 - 1 - k + 1) j).int := by
    intro j h1 h4
    rw [h.v (k + 1) hk j h1 h4, h.v k (by omega) j h1 h4, show P.length - 1 - (k + 1) = P.length - 1 - 1 - k by omega, show P.length - 1 - k = P.length - 1 - 1 - k + 1 by omega]
    exact ⟨rfl, rfl⟩
  unfold legS
  rw [(e 1 (by omega) (by omega)).1, (e 1 (by omega) (by omega)).2, (e 2 (by omega) (by omega)).1, (e 2 (by omega) (by omega)).2, (e 3 (by omega) (by omega)).1, (e 3 (by omega) (by omega)).2]
  rw [sq_comm (rd P (P.length - 1 - 1 - k) 1).int, sq_comm (rd P (P.length - 1 - 1 - k) 2).int, sq_comm (rd P (P.length - 1 - 1 - k) 3).int]
theorem way_back {w : Int} {P r : List (List Ct)} (h : RightT w P) (hb : BackOf P r) : wayS r (r.length - 1) = wayS P (P.length - 1) := by
  have hn1 := h.n1
  rw [hb.l, (wayS_sum (x := r) _ (by omega)).1, (wayS_sum (x := P) _ (by omega)).1, ← sumN_rev (legS P)]
  exact sumN_congr fun k hk => leg_back hb (by omega)
theorem long_right {w : Int} {P : List (List Ct)} (h : RightT w P) : olg_res w P = some (wayS P (P.length - 1)) ∧ olg_v w P = wayS P (P.length - 1) := by
  have hn := h.n0
  have hn1 := h.n1
  obtain ⟨a1, a2⟩ := olg_rows (P := P) (by omega) (by omega)
  obtain ⟨b1, ⟨s1, s2⟩, s3⟩ := trt_is (w := w) (l := P)
  obtain rfl : b1 = true := s3.2 h
  have q : (0 : Int) ≤ 1 ∧ (1 : Int) ≤ (P.length : Int) ∧ (P.length : Int) ≤ (P.length : Int) := by omega
  have e : olg_res w P = some (wayS P (P.length - 1)) := by simp only [olg_res, s1, s2, Option.isSome_some, Bool.not_true, cond_true, cond_false, cond_dec q, a1, a2]
  exact ⟨e, by unfold olg_v; rw [e]; rfl⟩
/-- Later, where it may be: the rows and what they are. -/
theorem later_right {w b : Int} {P : List (List Ct)} (h : RightT w P) : (∃ e, e ≠ 0 ∧ ola_res w P b = some (0, e, []) ∧ ola_v w P b = (0, e, [])) ∨ (-2097152 ≤ b ∧ b ≤ 2097152 ∧ ∃ r, ola_res w P b = some (w, 0, r) ∧ ola_v w P b = (w, 0, r) ∧ RightT w r ∧ r.length = P.length ∧ (∀ i, i < P.length → (rd r i 0).int = (rd P i 0).int + b) ∧ ∀ i, i < P.length → ∀ j, 1 ≤ j → j < 4 → (rd r i j).int = (rd P i j).int) := by
  have hn := h.n0
  have hn1 := h.n1
  obtain ⟨b1, ⟨s1, s2⟩, s3⟩ := trt_is (w := w) (l := P)
  obtain rfl : b1 = true := s3.2 h
  by_cases c1 : b < -2097152
  · have e : ola_res w P b = some (0, 1, []) := by simp only [ola_res, s1, s2, Option.isSome_some, Bool.not_true, cond_true, cond_false, cond_dec c1]
    exact .inl ⟨1, by omega, e, by unfold ola_v; rw [e]; rfl⟩
  by_cases c2 : b > 2097152
  · have e : ola_res w P b = some (0, 1, []) := by simp only [ola_res, s1, s2, Option.isSome_some, Bool.not_true, cond_true, cond_false, cond_not c1, cond_dec c2]
    exact .inl ⟨1, by omega, e, by unfold ola_v; rw [e]; rfl⟩
  obtain ⟨a1, a2⟩ := ola_rows (P := P) (b := b) (by omega)
  have ha : (ola_L0_v P b).2.length = P.length := by rw [← kOf_length, a2, mapI_length, kOf_length]
  have cell : ∀ i, i < P.length → ((rd (ola_L0_v P b).2 i 0).int, (rd (ola_L0_v P b).2 i 1).int, (rd (ola_L0_v P b).2 i 2).int, (rd (ola_L0_v P b).2 i 3).int) = laF b i ((rd P i 0).int, (rd P i 1).int, (rd P i 2).int, (rd P i 3).int) := by
    intro i hi
    have e := kOf_rd (l := (ola_L0_v P b).2) (i := i) (by omega)
    rw [a2, mapI_get, kOf_rd hi, Nat.zero_add] at e
    exact (Option.some.inj e).symm
  have q0 : 0 < P.length := by omega
  have q1 : 0 + P.length ≤ 9223372036854775807 ∧ (0 + P.length) * 32 ≤ 140737488355328 := by omega
  have ct : ∀ i, i < P.length → (rd (ola_L0_v P b).2 i 0).int = (rd P i 0).int + b := fun i hi => by
    have := cell i hi
    simp only [laF, Prod.mk.injEq] at this
    have t0 := (h.ok i hi).t0
    have t1 := (h.ok i hi).t1
    rw [this.1, wrap_in (by omega) (by omega)]
  have cv : ∀ i, i < P.length → ∀ j, 1 ≤ j → j < 4 → (rd (ola_L0_v P b).2 i j).int = (rd P i j).int := fun i hi j h1 h4 => by
    have := cell i hi
    simp only [laF, Prod.mk.injEq] at this
    have c : j = 1 ∨ j = 2 ∨ j = 3 := by omega
    rcases c with rfl | rfl | rfl
    · exact this.2.1
    · exact this.2.2.1
    · exact this.2.2.2
  obtain ⟨w', e, r, s, ⟨t1, t2⟩, _, t5, t6, t7, t8⟩ := make_ok (w := w) (a := (ola_L0_v P b).2) (b := (ola_L0_v P b).2) (by omega) (by omega) (stb_few (by omega) (by omega)) rfl
  have hr : ola_res w P b = some (w', e, r) := by
    simp only [ola_res, s1, s2, Bool.not_true, cond_true, cond_false, cond_not c1, cond_not c2, cond_dec q0, cond_dec q1, a1, t1, t2, Option.isSome_some]
  by_cases he : e = 0
  · subst he
    obtain ⟨u1, rfl, u3⟩ := t7 rfl
    have st : Strict (kOf (ola_L0_v P b).2) := by
      rw [Strict, List.pairwise_iff_getElem]
      intro i j hi hj hij
      have e1 := kOf_rd (l := (ola_L0_v P b).2) (i := i) (by rw [← kOf_length (l := (ola_L0_v P b).2)]; exact hi)
      have e2 := kOf_rd (l := (ola_L0_v P b).2) (i := j) (by rw [← kOf_length (l := (ola_L0_v P b).2)]; exact hj)
      rw [List.getElem?_eq_getElem hi] at e1
      rw [List.getElem?_eq_getElem hj] at e2
      rw [Option.some.inj e1, Option.some.inj e2]
      rw [kOf_length, ha] at hi hj
      have := right_mono h hij hj
      show (rd (ola_L0_v P b).2 i 0).int < (rd (ola_L0_v P b).2 j 0).int
      rw [ct i hi, ct j hj]; omega
    rw [srtU_strict_id st] at u3
    have hs := same4_of u3
    exact .inr ⟨by omega, by omega, r, hr, by unfold ola_v; rw [hr]; rfl, u1, by rw [hs.len, ha], fun i hi => by rw [hs.at' i (by omega) 0 (by omega)]; exact ct i hi, fun i hi j h1 h4 => by rw [hs.at' i (by omega) j h4]; exact cv i hi j h1 h4⟩
  · obtain ⟨u1, rfl, rfl, _⟩ := t8 he
    exact .inl ⟨e, he, hr, by unfold ola_v; rw [hr]; rfl⟩
theorem lbk_true (w : Int) (x : List (List Ct)) (b : Int) (hb : x.length ≤ 1048576) : lbk_res w x b = some true := by
  obtain ⟨k1, k2⟩ := tky_ok hb
  unfold lbk_res
  rw [k1, k2]
  by_cases h40 : (x.length : Int) > 40
  · rw [cond_dec h40]; rfl
  obtain ⟨c, r1, r2, _, _, r5⟩ := right_both (w := w) (x := x)
  cases c with
  | false => simp only [cond_not h40, r1, r2, Option.isSome_some, Bool.not_false, cond_true]
  | true =>
  have hR : RightT w (cK x) := (RightT.same (same4_of kOf_cK)).2 (r5 rfl)
  obtain ⟨a, a1, a2, a3, a4⟩ := back_right hR
  obtain ⟨c, c1, c2, c3, c4⟩ := back_right a4
  have hc : kOf c = kOf x := by rw [back_twice hR a3 c3, kOf_cK]
  have hcl : c.length ≤ 1048576 := by have := c4.n1; omega
  obtain ⟨i1, i2, i3⟩ := is_ok (w := w) hc hcl
  obtain ⟨l1, l2⟩ := long_right a4
  obtain ⟨l3, l4⟩ := long_right hR
  have hw := way_back hR a3
  have z0 : ((0 : Int) != 0) = false := rfl
  rcases later_right (b := b) hR with ⟨e, he, o1, o2⟩ | ⟨hb1, hb2, r, o1, o2, o3, o4, o5, o6⟩
  · have he' : (e == (0 : Int)) = false := by simpa using he
    simp only [cond_not h40, r1, r2, a1, a2, c1, c2, l1, l2, l3, l4, hw, o1, o2, i1, i2, i3, he', z0, bne_self_eq_false, Option.isSome_some, Bool.not_true, cond_true, cond_false]
  · have wn : IntKind.i64.wrap ((0 : Int) - b) = -b := by rw [wrap_in (by omega) (by omega)]; omega
    rcases later_right (b := -b) o3 with ⟨e, he, p1, p2⟩ | ⟨_, _, q, p1, p2, p3, p4, p5, p6⟩
    · exfalso
      -- it may be: its keys are the first one's
      have hn := o3.n0
      have hn1 := o3.n1
      obtain ⟨b1, ⟨s1, s2⟩, s3⟩ := trt_is (w := w) (l := r)
      obtain rfl : b1 = true := s3.2 o3
      obtain ⟨m1, m2⟩ := ola_rows (P := r) (b := -b) (by omega)
      have hk : kOf (ola_L0_v r (-b)).2 = kOf (cK x) := by
        refine kOf_ext (n := (cK x).length) (by rw [← kOf_length, m2, mapI_length, kOf_length, o4]) rfl (fun i hi j hj => ?_)
        have e := kOf_rd (l := (ola_L0_v r (-b)).2) (i := i) (by rw [← kOf_length, m2, mapI_length, kOf_length]; omega)
        rw [m2, mapI_get, kOf_rd (by omega), Nat.zero_add] at e
        have e := (Option.some.inj e).symm
        simp only [laF, Prod.mk.injEq] at e
        have t0 := (o3.ok i (by omega)).t0
        have t1 := (o3.ok i (by omega)).t1
        have cj : j = 0 ∨ j = 1 ∨ j = 2 ∨ j = 3 := by omega
        rcases cj with rfl | rfl | rfl | rfl
        · rw [e.1, wrap_in (by omega) (by omega), o5 i hi]; omega
        · rw [e.2.1]; exact o6 i hi 1 (by omega) (by omega)
        · rw [e.2.2.1]; exact o6 i hi 2 (by omega) (by omega)
        · rw [e.2.2.2]; exact o6 i hi 3 (by omega) (by omega)
      obtain ⟨y, y1, y2, _, _⟩ := make_right ((RightT.same (same4_of hk)).2 hR)
      have n1 : ¬ -b < -2097152 := by omega
      have n2 : ¬ -b > 2097152 := by omega
      have q0 : 0 < r.length := by omega
      have q1 : 0 + r.length ≤ 9223372036854775807 ∧ (0 + r.length) * 32 ≤ 140737488355328 := by omega
      have : ola_res w r (-b) = some (w, 0, y) := by
        simp only [ola_res, s1, s2, Bool.not_true, cond_true, cond_false, cond_not n1, cond_not n2, cond_dec q0, cond_dec q1, m1, y1, y2, Option.isSome_some]
      rw [this] at p1
      simp only [Option.some.injEq, Prod.mk.injEq] at p1
      exact he p1.2.1.symm
    · have hq : kOf q = kOf x := by
        rw [← kOf_cK (l := x)]
        refine kOf_ext (n := (cK x).length) (by rw [p4, o4]) rfl (fun i hi j hj => ?_)
        by_cases h0 : j = 0
        · subst h0; rw [p5 i (by omega), o5 i hi]; omega
        · rw [p6 i (by omega) j (by omega) hj, o6 i hi j (by omega) hj]
      obtain ⟨n1, n2, n3⟩ := is_ok (w := w) hq (by have := p3.n1; omega)
      simp only [cond_not h40, r1, r2, a1, a2, c1, c2, l1, l2, l3, l4, hw, o1, o2, wn, p1, p2, i1, i2, i3, n1, n2, n3, z0, bne_self_eq_false, beq_self_eq_true, Option.isSome_some, Bool.not_true, cond_true, cond_false]
theorem lbk_call (w : Int) (x : List (List Ct)) (b : Int) (hb : x.length ≤ 1048576) : CallOk Try.prog 5 [.sv (.agg [.val false (.int .i64 w), .ext 0]), .sv (.one (.val false (.int .i64 b)))] [(0, .grid [.int .i64, .int .i64, .int .i64, .int .i64] x)] 1 (lbk_O true) := lbk_tree (lbk_true w x b hb)
end Go.Proofs.Ytigjlhhglhbbpaa
