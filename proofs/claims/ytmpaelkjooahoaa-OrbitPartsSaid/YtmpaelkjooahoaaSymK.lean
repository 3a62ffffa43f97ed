/- The merge of two sorted parts as a whole: the same rows, sorted. No condition. -/
import Derived.Test.YtmpaelkjooahoaaSymN
set_option linter.unusedVariables false
set_option linter.unusedSimpArgs false
namespace Go.Proofs.Ytmpaelkjooahoaa
open Go.RowKit

theorem rot_opt {l : List (List Ct)} {s m e : Nat} (h1 : s ≤ m) (h2 : m ≤ e) (he : e ≤ l.length) (hl : l.length ≤ 1048576) : ∃ r, (bif decide (s < m ∧ m < e) then (rot_res l s m e).isSome else true) = true ∧ (bif decide (s < m ∧ m < e) then rot_v l s m e else l) = r ∧ r.length = l.length ∧ ∀ k, kA r k = kA l (rotI s m e k) := by
  by_cases c : s < m ∧ m < e
  · rw [decide_eq_true c]
    obtain ⟨r, g1, g2, g3, g4⟩ := rot_ok (l := l) c.1 c.2 he hl
    exact ⟨r, by rw [g1]; rfl, g2, g3, g4⟩
  · rw [decide_eq_false c]
    refine ⟨l, rfl, rfl, rfl, fun k => ?_⟩
    have e : rotI s m e k = k := by
      unfold rotI
      repeat' split
      all_goals omega
    rw [e]
theorem sym_mid {I : SymIn} {K : Nat} (IH : MergeOk K I) {l : List (List Ct)} {a m b : Nat} (h1 : a < m) (h2 : m < b) (hb : b ≤ l.length) (hl : l.length ≤ 1048576) (sA : Srt a m l) (sB : Srt m b l) (hm : m ≠ a + 1) (hn : b ≠ m + 1) (hK : b - a ≤ 2 * K) : ∃ r, @sym_res I l a m b = some r ∧ Sam a b l r ∧ Srt a b r := by
  obtain ⟨mid, hmid⟩ : ∃ mid, mid = (a + b) / 2 := ⟨_, rfl⟩
  have hw := half_is (i := a) (j := b) (by omega)
  rw [← hmid] at hw
  have w1 : IntKind.i64.wrap ((mid : Int) + (m : Int)) = ((mid + m : Nat) : Int) := by rw [wrap_in (by omega) (by omega)]; omega
  obtain ⟨s, p8, v8, s1, s2, s3, s4, cA, cB⟩ := sym_find hmid h1 h2 hb hl sA sB
  have w2 : IntKind.i64.wrap (((mid + m : Nat) : Int) - (s : Int)) = ((mid + m - s : Nat) : Int) := by rw [wrap_in (by omega) (by omega)]; omega
  obtain ⟨e, he⟩ : ∃ e, e = mid + m - s := ⟨_, rfl⟩
  rw [← he] at w2 cA cB s4
  obtain ⟨l1, d1, d2, d3, d4⟩ := rot_opt (l := l) s2 (show m ≤ e by omega) (by omega) hl
  -- what lies where
  have rA : ∀ k, a ≤ k → k < s → kA l1 k = kA l k := fun k k1 k2 => by
    rw [d4]; congr 1
    unfold rotI
    repeat' split
    all_goals omega
  have rB : ∀ k, s ≤ k → k < mid → kA l1 k = kA l (k + (m - s)) := fun k k1 k2 => by
    rw [d4]; congr 1
    unfold rotI
    repeat' split
    all_goals omega
  have rC : ∀ k, mid ≤ k → k < e → kA l1 k = kA l (k - (e - m)) := fun k k1 k2 => by
    rw [d4]; congr 1
    unfold rotI
    repeat' split
    all_goals omega
  have rD : ∀ k, e ≤ k → k < b → kA l1 k = kA l k := fun k k1 k2 => by
    rw [d4]; congr 1
    unfold rotI
    repeat' split
    all_goals omega
  have tA : Srt a s l1 := fun p q e1 e2 e3 => by rw [rA p (by omega) (by omega), rA q (by omega) (by omega)]; exact sA.le (by omega) (by omega) (by omega)
  have tB : Srt s mid l1 := fun p q e1 e2 e3 => by rw [rB p (by omega) (by omega), rB q (by omega) (by omega)]; exact sB.le (by omega) (by omega) (by omega)
  have tC : Srt mid e l1 := fun p q e1 e2 e3 => by rw [rC p (by omega) (by omega), rC q (by omega) (by omega)]; exact sA.le (by omega) (by omega) (by omega)
  have tD : Srt e b l1 := fun p q e1 e2 e3 => by rw [rD p (by omega) (by omega), rD q (by omega) (by omega)]; exact sB.le (by omega) (by omega) (by omega)
  have cross : ∀ p q, a ≤ p → p < mid → mid ≤ q → q < b → (kA l1 p).1 ≤ (kA l1 q).1 := fun p q e1 e2 e3 e4 => by
    by_cases hp : p < s
    · rw [rA p e1 hp]
      by_cases hq : q < e
      · rw [rC q e3 hq]; exact sA.le (by omega) (by omega) (by omega)
      · rw [rD q (by omega) e4]
        have x1 := sA.le (p := p) (q := s - 1) (by omega) (by omega) (by omega)
        have x2 := cA (by omega) (by omega)
        have x3 := sB.le (p := e) (q := q) (by omega) (by omega) (by omega)
        omega
    · rw [rB p (by omega) e2]
      by_cases hq : q < e
      · rw [rC q e3 hq]
        have x1 := sB.le (p := p + (m - s)) (q := e - 1) (by omega) (by omega) (by omega)
        have x2 := cB (by omega) (by omega)
        have x3 := sA.le (p := s) (q := q - (e - m)) (by omega) (by omega) (by omega)
        omega
      · rw [rD q (by omega) e4]; exact sB.le (by omega) (by omega) (by omega)
  have m1 : Sam a b l l1 := (sam_rot s2 (by omega) d3 d4).wide s1 s4
  obtain ⟨l2, f1, f2, f3, f4⟩ := IH.opt (l := l1) (a := a) (m := s) (b := mid) s1 s3 (by omega) (by omega) (by omega) tA tB
  have o2 : ∀ k, mid ≤ k → kA l2 k = kA l1 k := fun k hk => f3.out k (.inr hk)
  have uC : Srt mid e l2 := fun p q e1 e2 e3 => by rw [o2 p (by omega), o2 q (by omega)]; exact tC p q e1 e2 e3
  have uD : Srt e b l2 := fun p q e1 e2 e3 => by rw [o2 p (by omega), o2 q (by omega)]; exact tD p q e1 e2 e3
  obtain ⟨l3, g1, g2, g3, g4⟩ := IH.opt (l := l2) (a := mid) (m := e) (b := b) (by omega) s4 (by have := f3.len; omega) (by have := f3.len; omega) (by omega) uC uD
  have t1 : (IntKind.i64.wrap ((m : Int) - (a : Int)) == (1 : Int)) = false := by rw [wrap_in (by omega) (by omega)]; simp; omega
  have t2 : (IntKind.i64.wrap ((b : Int) - (m : Int)) == (1 : Int)) = false := by rw [wrap_in (by omega) (by omega)]; simp; omega
  have b1 : (bif decide ((s : Int) < (m : Int)) then decide ((m : Int) < (e : Int)) else false) = decide (s < m ∧ m < e) := and_dec (by omega) (by omega)
  have b2 : (bif decide ((a : Int) < (s : Int)) then decide ((s : Int) < (mid : Int)) else false) = decide (a < s ∧ s < mid) := and_dec (by omega) (by omega)
  have b3 : (bif decide ((mid : Int) < (e : Int)) then decide ((e : Int) < (b : Int)) else false) = decide (mid < e ∧ e < b) := and_dec (by omega) (by omega)
  refine ⟨l3, ?_, m1.trans ((f3.wide (Nat.le_refl _) (by omega)).trans (g3.wide (by omega) (Nat.le_refl _))), fun p q e1 e2 e3 => ?_⟩
  · unfold sym_res
    simp only [t1, t2, cond_false, p8, cond_true, v8, hw, w1, w2, b1, b2, b3, d1, d2, f1, f2, g1, g2]
  · by_cases hq : q < mid
    · rw [g3.out p (.inl (by omega)), g3.out q (.inl (by omega))]; exact f4 p q e1 e2 hq
    · by_cases hp : mid ≤ p
      · exact g4 p q hp e2 e3
      · rw [g3.out p (.inl (by omega))]
        obtain ⟨p', x1, x2, x3⟩ := f3.to p e1 (by omega)
        obtain ⟨q', y1, y2, y3⟩ := g3.to q (by omega) e3
        rw [x3, y3, o2 q' y1]
        exact cross p' q' x1 x2 y1 y2
theorem sym_any {I : SymIn} {K : Nat} (IH : MergeOk K I) {l : List (List Ct)} {a m b : Nat} (h1 : a < m) (h2 : m < b) (hb : b ≤ l.length) (hl : l.length ≤ 1048576) (sA : Srt a m l) (sB : Srt m b l) (hK : b - a ≤ 2 * K) : ∃ r, @sym_res I l a m b = some r ∧ Sam a b l r ∧ Srt a b r := by
  by_cases c1 : m = a + 1
  · have t1 : (IntKind.i64.wrap ((m : Int) - (a : Int)) == (1 : Int)) = true := by rw [wrap_in (by omega) (by omega)]; simp; omega
    obtain ⟨r, g1, g2, g3⟩ := sym_one h2 hb hl sB c1
    refine ⟨r, ?_, g2, g3⟩
    unfold sym_res
    rw [t1, cond_true, g1]
  · by_cases c2 : b = m + 1
    · have t1 : (IntKind.i64.wrap ((m : Int) - (a : Int)) == (1 : Int)) = false := by rw [wrap_in (by omega) (by omega)]; simp; omega
      have t2 : (IntKind.i64.wrap ((b : Int) - (m : Int)) == (1 : Int)) = true := by rw [wrap_in (by omega) (by omega)]; simp; omega
      obtain ⟨r, g1, g2, g3⟩ := sym_last h1 hb hl sA c2
      refine ⟨r, ?_, g2, g3⟩
      unfold sym_res
      rw [t1, t2, cond_false, cond_true, g1]
    · exact sym_mid IH h1 h2 hb hl sA sB c1 c2 hK
theorem sym_deep : ∀ n, MergeOk (2 ^ n) (symAt n).i := by
  intro n
  induction n with
  | zero => intro l a m b h1 h2 _ _ hK; omega
  | succ n ih =>
    intro l a m b h1 h2 hb hl hK sA sB
    obtain ⟨r, g1, g2, g3⟩ := sym_any ih h1 h2 hb hl sA sB (by rw [Nat.pow_succ] at hK; omega)
    have e1 : (symAt (n + 1)).i.p l a m b = (@sym_res (symAt n).i l a m b).isSome := rfl
    have e2 : (symAt (n + 1)).i.v l a m b = (@sym_res (symAt n).i l a m b).getD [] := rfl
    rw [e1, e2, g1]
    exact ⟨rfl, g2, g3⟩
/-- The stable sort's merge. -/
theorem smm_ok {l : List (List Ct)} {a m b : Nat} (h1 : a < m) (h2 : m < b) (hb : b ≤ l.length) (hl : l.length ≤ 256) (sA : Srt a m l) (sB : Srt m b l) : smm_p l a m b = true ∧ Sam a b l (smm_v l a m b) ∧ Srt a b (smm_v l a m b) :=
  sym_deep 8 l a m b h1 h2 hb (by omega) (by omega) sA sB
end Go.Proofs.Ytmpaelkjooahoaa
