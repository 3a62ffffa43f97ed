/- How far a ray's hit lies: plain laws. No condition. -/
import Derived.Test.YtgmopdnknkjfpaaRayNearerT
import Derived.Test.YtgmopdnknkjfpaaIter
set_option linter.unusedVariables false
set_option linter.unusedSimpArgs false
namespace Go.Proofs.Ytgmopdnknkjfpaa
open Go.RowKit

abbrev Hit := Int × Int × Int × Int × Int × Int × Int × Bool
theorem cond_both {α : Type} {Q : α → Prop} {c : Bool} {a b : α} (h1 : Q a) (h2 : Q b) : Q (bif c then a else b) := by
  cases c with
  | true => exact h1
  | false => exact h2
theorem cond_or {α : Type} {c d : Bool} {a b : α} : (bif c then a else bif d then a else b) = bif (c || d) then a else b := by cases c <;> rfl
theorem cond_not_twice {α : Type} {c : Bool} {a b : α} : (bif (!c) then a else b) = bif c then b else bif c then b else a := by cases c <;> rfl
theorem of_or_false {c d : Bool} (h : (c || d) = false) : c = false ∧ d = false := by cases c <;> cases d <;> first | exact ⟨rfl, rfl⟩ | cases h
/-- Hits by a ray whose near end is held and whose far end moves. -/
structure Near (V : Int → Int → Hit) : Prop where
  less : ∀ n f f', f' ≤ f → (V n f).2.2.2.2.2.2.2 = false → (V n f').2.2.2.2.2.2.2 = false
  same : ∀ n f, (V n f).2.2.2.2.2.2.2 = true → V n (V n f).1 = V n f
  next : ∀ n f f', (V n f).2.2.2.2.2.2.2 = true → f' < (V n f).1 → (V n f').2.2.2.2.2.2.2 = false
  bd : ∀ n f, (V n f).2.2.2.2.2.2.2 = true → -2147483648 ≤ (V n f).1 ∧ (V n f).1 ≤ 2147483648
theorem near_of {V : Int → Int → Hit} {N W1 W2 : Hit} {c b1 b2 : Bool} {t1 t2 : Int}
    (hV : ∀ n f, V n f = bif c then N else bif (decide (t1 > n) && (decide (t1 ≤ f) && b1)) then W1 else bif (decide (t2 > n) && (decide (t2 ≤ f) && b2)) then W2 else N)
    (hN : N.2.2.2.2.2.2.2 = false) (h1 : W1.2.2.2.2.2.2.2 = true) (h2 : W2.2.2.2.2.2.2.2 = true) (e1 : W1.1 = t1) (e2 : W2.1 = t2)
    (ht : c = false → t1 ≤ t2) (d1 : -2147483648 ≤ t1 ∧ t1 ≤ 2147483648) (d2 : -2147483648 ≤ t2 ∧ t2 ≤ 2147483648) : Near V := by
  cases c with
  | true =>
    have hv : ∀ n f, V n f = N := hV
    exact ⟨fun n f f' _ _ => by rw [hv, hN], fun n f _ => by rw [hv, hv], fun n f f' _ _ => by rw [hv, hN], fun n f h => by rw [hv, hN] at h; cases h⟩
  | false =>
    have hle := ht rfl
    have v1 : ∀ n f, t1 > n → t1 ≤ f → b1 = true → V n f = W1 := fun n f a b k => by rw [hV, decide_eq_true a, decide_eq_true b, k]; rfl
    have v2 : ∀ n f, ¬ (t1 > n ∧ t1 ≤ f ∧ b1 = true) → t2 > n → t2 ≤ f → b2 = true → V n f = W2 := fun n f no a b k => by
      rw [hV, decide_eq_true a, decide_eq_true b, k]
      have : (decide (t1 > n) && (decide (t1 ≤ f) && b1)) = false := by
        rw [Bool.eq_false_iff]; intro h
        rw [Bool.and_eq_true, Bool.and_eq_true, decide_eq_true_iff, decide_eq_true_iff] at h
        exact no h
      rw [this]; rfl
    have v3 : ∀ n f, ¬ (t1 > n ∧ t1 ≤ f ∧ b1 = true) → ¬ (t2 > n ∧ t2 ≤ f ∧ b2 = true) → V n f = N := fun n f no no2 => by
      rw [hV]
      have : (decide (t1 > n) && (decide (t1 ≤ f) && b1)) = false := by
        rw [Bool.eq_false_iff]; intro h
        rw [Bool.and_eq_true, Bool.and_eq_true, decide_eq_true_iff, decide_eq_true_iff] at h
        exact no h
      rw [this]
      have : (decide (t2 > n) && (decide (t2 ≤ f) && b2)) = false := by
        rw [Bool.eq_false_iff]; intro h
        rw [Bool.and_eq_true, Bool.and_eq_true, decide_eq_true_iff, decide_eq_true_iff] at h
        exact no2 h
      rw [this]; rfl
    have no : ∀ n f, (V n f).2.2.2.2.2.2.2 = false → ¬ (t1 > n ∧ t1 ≤ f ∧ b1 = true) ∧ ¬ (t2 > n ∧ t2 ≤ f ∧ b2 = true) := fun n f h => by
      have a : ¬ (t1 > n ∧ t1 ≤ f ∧ b1 = true) := fun a => by rw [v1 n f a.1 a.2.1 a.2.2, h1] at h; cases h
      exact ⟨a, fun b => by rw [v2 n f a b.1 b.2.1 b.2.2, h2] at h; cases h⟩
    have yes : ∀ n f, (V n f).2.2.2.2.2.2.2 = true → ((t1 > n ∧ t1 ≤ f ∧ b1 = true) ∧ V n f = W1) ∨ (¬ (t1 > n ∧ t1 ≤ f ∧ b1 = true) ∧ (t2 > n ∧ t2 ≤ f ∧ b2 = true) ∧ V n f = W2) := fun n f h => by
      by_cases a : t1 > n ∧ t1 ≤ f ∧ b1 = true
      · exact .inl ⟨a, v1 n f a.1 a.2.1 a.2.2⟩
      · by_cases b : t2 > n ∧ t2 ≤ f ∧ b2 = true
        · exact .inr ⟨a, b, v2 n f a b.1 b.2.1 b.2.2⟩
        · rw [v3 n f a b, hN] at h; cases h
    refine ⟨fun n f f' hf h => ?_, fun n f h => ?_, fun n f f' h hf => ?_, fun n f h => ?_⟩
    · obtain ⟨a, b⟩ := no n f h
      rw [v3 n f' (fun k => a ⟨k.1, by have := k.2.1; omega, k.2.2⟩) (fun k => b ⟨k.1, by have := k.2.1; omega, k.2.2⟩), hN]
    · rcases yes n f h with ⟨a, e⟩ | ⟨a, b, e⟩
      · rw [e, e1, v1 n t1 a.1 (Int.le_refl _) a.2.2]
      · rw [e, e2, v2 n t2 (fun k => a ⟨k.1, by have := k.2.1; have := b.2.1; omega, k.2.2⟩) b.1 (Int.le_refl _) b.2.2]
    · rcases yes n f h with ⟨a, e⟩ | ⟨a, b, e⟩
      · rw [e, e1] at hf
        rw [v3 n f' (fun k => by have := k.2.1; omega) (fun k => by have := k.2.1; omega), hN]
      · rw [e, e2] at hf
        rw [v3 n f' (fun k => a ⟨k.1, by have := k.2.1; have := b.2.1; omega, k.2.2⟩) (fun k => by have := k.2.1; omega), hN]
    · rcases yes n f h with ⟨a, e⟩ | ⟨a, b, e⟩
      · rw [e, e1]; exact d1
      · rw [e, e2]; exact d2
theorem near_meet {V : Int → Int → Hit} {N : Hit} {G : Int → Int → Int → Int × Int × Int × Int × Bool} {W : Int → Int → Int → Int → Hit} {c : Bool} {t1 t2 : Int} {X Y Z : Int → Int} {H : Int → Bool}
    (hG : ∀ t n f, G t n f = (t, X t, Y t, Z t, decide (t > n) && (decide (t ≤ f) && H t)))
    (hV : ∀ n f, V n f = bif c then N else bif (G t1 n f).2.2.2.2 then W (G t1 n f).1 (G t1 n f).2.1 (G t1 n f).2.2.1 (G t1 n f).2.2.2.1 else bif (G t2 n f).2.2.2.2 then W (G t2 n f).1 (G t2 n f).2.1 (G t2 n f).2.2.1 (G t2 n f).2.2.2.1 else N)
    (hN : N.2.2.2.2.2.2.2 = false) (hW : ∀ t x y z, (W t x y z).1 = t ∧ (W t x y z).2.2.2.2.2.2.2 = true)
    (ht : c = false → t1 ≤ t2) (d1 : -2147483648 ≤ t1 ∧ t1 ≤ 2147483648) (d2 : -2147483648 ≤ t2 ∧ t2 ≤ 2147483648) : Near V :=
  near_of (N := N) (W1 := W t1 (X t1) (Y t1) (Z t1)) (W2 := W t2 (X t2) (Y t2) (Z t2)) (c := c) (b1 := H t1) (b2 := H t2) (t1 := t1) (t2 := t2)
    (fun n f => by rw [hV, hG, hG]) hN (hW _ _ _ _).2 (hW _ _ _ _).2 (hW _ _ _ _).1 (hW _ _ _ _).1 ht d1 d2
/-! A ball's nearer place is not farther than its other. -/
theorem sq_held (x : Int) : 0 ≤ mulS x x := by
  unfold mulS
  have h : 0 ≤ heldS x * heldS x := by
    rcases Int.le_total 0 (heldS x) with a | a
    · exact Int.mul_nonneg a a
    · exact Int.mul_nonneg_of_nonpos_of_nonpos a a
  have := heldS_mono (Int.ediv_le_ediv (by omega : (0 : Int) < 65536) h)
  rw [Int.zero_ediv, heldS_id (by omega) (by omega)] at this
  exact this
theorem add_held {x y : Int} (hx : 0 ≤ x) (hy : 0 ≤ y) : 0 ≤ addS x y := by
  have a := heldS_mono hx
  have b := heldS_mono hy
  rw [heldS_id (n := 0) (by omega) (by omega)] at a b
  unfold addS
  have := heldS_mono (by omega : 0 ≤ heldS x + heldS y)
  rw [heldS_id (n := 0) (by omega) (by omega)] at this
  exact this
theorem div_up {x y a : Int} (h : x ≤ y) (ha : 0 ≤ a) (hz : (a == 0) = false) : divS x a ≤ divS y a := by
  have hp : 0 < heldS a := heldS_pos (by have : a ≠ 0 := by intro e; rw [e] at hz; cases hz
                                         omega)
  rw [divS_of (by omega), divS_of (by omega)]
  have := heldS_mono h
  rw [← fdiv_pos hp, ← fdiv_pos hp]
  exact heldS_mono (Int.ediv_le_ediv hp (by omega))
theorem root_order {b u x y z : Int}
    (hz : (addS (addS (addS (0 : Int) (mulS x x)) (mulS y y)) (mulS z z) == (0 : Int)) = false) :
    divS (subS ((fun a => heldS (-heldS a)) b) (rootS u)) (addS (addS (addS (0 : Int) (mulS x x)) (mulS y y)) (mulS z z)) ≤
    divS (subS (rootS u) b) (addS (addS (addS (0 : Int) (mulS x x)) (mulS y y)) (mulS z z)) := by
  refine div_up ?_ (add_held (add_held (add_held (Int.le_refl _) (sq_held _)) (sq_held _)) (sq_held _)) hz
  have r := rootS_bd u
  have hb := heldS_bd b
  unfold subS
  dsimp only
  rw [heldS_id (n := -heldS b) (by omega) (by omega), heldS_id (n := -heldS b) (by omega) (by omega), heldS_id (n := rootS u) (by omega) (by omega)]
  exact heldS_mono (by omega)
/-! The law's body. -/
theorem body_one {V : Int → Int → Hit} (h : Near V) {n f b : Int} (b0 : 0 ≤ b) (b1 : b ≤ 65535) :
    (bif (!(V n f).snd.snd.snd.snd.snd.snd.snd) then (bif (!(V n (IntKind.i64.wrap ((if (2147483648 : Int) < f then (2147483648 : Int) else f) - IntKind.i64.wrap b))).snd.snd.snd.snd.snd.snd.snd) then (some true) else some (decide (f < (-2147483648 : Int))))
      else bif ((V n (V n f).fst).snd.snd.snd.snd.snd.snd.snd) then (bif ((V n (V n f).fst).fst == (V n f).fst && ((0 : Int) == (0 : Int) && ((V n (V n f).fst).snd.fst == (V n f).snd.fst && ((V n (V n f).fst).snd.snd.fst == (V n f).snd.snd.fst && ((V n (V n f).fst).snd.snd.snd.fst == (V n f).snd.snd.snd.fst && true)) && ((V n (V n f).fst).snd.snd.snd.snd.fst == (V n f).snd.snd.snd.snd.fst && ((V n (V n f).fst).snd.snd.snd.snd.snd.fst == (V n f).snd.snd.snd.snd.snd.fst && ((V n (V n f).fst).snd.snd.snd.snd.snd.snd.fst == (V n f).snd.snd.snd.snd.snd.snd.fst && true)) && true)))) then (some (!(V n (IntKind.i64.wrap (IntKind.i64.wrap ((V n f).fst - (1 : Int)) - IntKind.i64.wrap b))).snd.snd.snd.snd.snd.snd.snd)) else some false) else some false) = some true := by
  have wb : IntKind.i64.wrap b = b := wrap_in (by omega) (by omega)
  cases hk : (V n f).2.2.2.2.2.2.2 with
  | false =>
    by_cases hf : f < -2147483648
    · rw [decide_eq_true hf]
      cases (!(V n (IntKind.i64.wrap ((if (2147483648 : Int) < f then (2147483648 : Int) else f) - IntKind.i64.wrap b))).snd.snd.snd.snd.snd.snd.snd) <;> rfl
    · have e : IntKind.i64.wrap ((if (2147483648 : Int) < f then (2147483648 : Int) else f) - IntKind.i64.wrap b) = (if (2147483648 : Int) < f then (2147483648 : Int) else f) - b := by
        rw [wb]; exact wrap_in (by split <;> omega) (by split <;> omega)
      rw [e, h.less n f _ (by split <;> omega) hk]
      rfl
  | true =>
    have d := h.bd n f hk
    have e : IntKind.i64.wrap (IntKind.i64.wrap ((V n f).fst - (1 : Int)) - IntKind.i64.wrap b) = (V n f).fst - 1 - b := by
      rw [wb, wrap_in (n := (V n f).fst - 1) (by omega) (by omega)]
      exact wrap_in (by omega) (by omega)
    rw [e, h.same n f hk, hk, h.next n f ((V n f).fst - 1 - b) hk (by omega)]
    simp only [beq_self_eq_true, Bool.and_true, Bool.not_true, Bool.not_false, cond_true, cond_false]
theorem body_true {k : Int} {B F : Int → Int → Hit} (hB : Near B) (hF : Near F) {n f b : Int} (b0 : 0 ≤ b) (b1 : b ≤ 65535) : lrwBody k B F n f b = some true := by
  unfold lrwBody
  cases (k == 0) with
  | true =>
    simp only [cond_true]
    exact body_one hB b0 b1
  | false =>
    simp only [cond_false]
    exact body_one hF b0 b1
end Go.Proofs.Ytgmopdnknkjfpaa
