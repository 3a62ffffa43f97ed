/- Tracks that are made, in plain numbers: the program's way and the document's. No condition. -/
import Derived.Test.YtmpaelkjooahoaaEngOrbit6
import Derived.Test.YtmpaelkjooahoaaSortT
import Derived.Test.YtmpaelkjooahoaaTrackR2
set_option linter.unusedVariables false
set_option linter.unusedSimpArgs false
namespace Go.Proofs.Ytmpaelkjooahoaa
open Go.RowKit

theorem set_mid {α : Type} {y z : α} {B : List α} : ∀ {A : List α} {n : Nat}, n = A.length → (A ++ y :: B).set n z = A ++ z :: B := by
  intro A
  induction A with
  | nil => intro n h; subst h; rfl
  | cons a A ih => intro n h; subst h; simp [ih]
theorem ins2_it : ∀ (S : List K4) (l : List (List Ct)) (B : List K4) (x : K4) (fuel : Nat), kOf l = S.reverse ++ x :: B → S.length < fuel → l.length ≤ 1048576 →
    ∃ c r, iter (ins_L2_step 0) fuel ((S.length : Int), l) = some (c, r) ∧ kOf r = (insR x S).reverse ++ B := by
  intro S
  induction S with
  | nil =>
    intro l B x fuel h hf hb
    obtain ⟨fuel, rfl⟩ : ∃ k, fuel = k + 1 := ⟨fuel - 1, by omega⟩
    refine ⟨_, l, iter_inr (r := ((0 : Int), l)) ?_, h⟩
    have q : ¬ ((([] : List K4).length : Int) > 0) := by simp
    simp only [ins_L2_step, cond_not q]
    rfl
  | cons y S ih =>
    intro l B x fuel h hf hb
    obtain ⟨fuel, rfl⟩ : ∃ k, fuel = k + 1 := ⟨fuel - 1, by omega⟩
    simp only [List.length_cons] at hf ⊢
    have h1 : kOf l = S.reverse ++ y :: (x :: B) := by rw [h]; simp
    have h2 : kOf l = (S.reverse ++ [y]) ++ x :: B := by rw [h]; simp
    obtain ⟨y0, y1, y2, y3, yl⟩ := kOf_at h1
    obtain ⟨x0, x1, x2, x3, xl⟩ := kOf_at h2
    rw [List.length_reverse] at y0 y1 y2 y3 yl
    rw [List.length_append, List.length_reverse, List.length_singleton] at x0 x1 x2 x3 xl
    have q1 : ((S.length + 1 : Nat) : Int) > 0 := by omega
    have q2 : (0 : Int) ≤ ((S.length + 1 : Nat) : Int) ∧ ((S.length + 1 : Nat) : Int) < (l.length : Int) := by omega
    have w : IntKind.i64.wrap (((S.length + 1 : Nat) : Int) - 1) = (S.length : Int) := by rw [wrap_in (by omega) (by omega)]; omega
    have q3 : (0 : Int) ≤ (S.length : Int) ∧ (S.length : Int) < (l.length : Int) := by omega
    by_cases c : x.1 < y.1
    · have hst : ins_L2_step 0 (((S.length + 1 : Nat) : Int), l) = some (.inl ((S.length : Int), (l.set (S.length + 1) [.i y.1, .i y.2.1, .i y.2.2.1, .i y.2.2.2]).set S.length [.i x.1, .i x.2.1, .i x.2.2.1, .i x.2.2.2])) := by
        simp only [ins_L2_step, cond_dec q1, cond_dec q2, w, cond_dec q3, Int.toNat_natCast, x0, x1, x2, x3, y0, y1, y2, y3, cond_dec c, List.length_set, upd4]
      rw [iter_inl hst]
      have hk : kOf ((l.set (S.length + 1) [.i y.1, .i y.2.1, .i y.2.2.1, .i y.2.2.2]).set S.length [.i x.1, .i x.2.1, .i x.2.2.1, .i x.2.2.2]) = S.reverse ++ x :: (y :: B) := by
        rw [kOf_set, kOf_set, h2]
        show ((((S.reverse ++ [y]) ++ x :: B).set (S.length + 1) y).set S.length x) = _
        rw [set_mid (by simp), List.append_assoc, List.singleton_append, set_mid (by simp)]
      obtain ⟨c', r, g1, g2⟩ := ih _ (y :: B) x fuel hk (by omega) (by rw [List.length_set, List.length_set]; exact hb)
      refine ⟨c', r, g1, ?_⟩
      rw [g2]
      simp only [insR, if_pos c]
      simp
    · refine ⟨_, l, iter_inr (r := (((S.length + 1 : Nat) : Int), l)) ?_, ?_⟩
      · simp only [ins_L2_step, cond_dec q1, cond_dec q2, w, cond_dec q3, Int.toNat_natCast, x0, y0, cond_not c, cond_same]
      · rw [h]
        simp only [insR, if_neg c]
        simp
theorem ins_it {ks : List K4} (hb : ks.length ≤ 1048576) : ∀ (d i : Nat) (l : List (List Ct)) (fuel : Nat), i + d = ks.length → 1 ≤ i → d < fuel → kOf l = srtA (ks.take i) ++ ks.drop i →
    ∃ c r, iter (ins_L0_step 0 (ks.length : Int)) fuel ((i : Int), l) = some (c, r) ∧ kOf r = srtA ks := by
  intro d
  induction d with
  | zero =>
    intro i l fuel hi h1 hf h
    obtain ⟨fuel, rfl⟩ : ∃ k, fuel = k + 1 := ⟨fuel - 1, by omega⟩
    obtain rfl : i = ks.length := by omega
    have q : ¬ ((ks.length : Int) < (ks.length : Int)) := by omega
    exact ⟨_, l, iter_inr (r := ((ks.length : Int), l)) (by simp only [ins_L0_step, cond_not q]), by rw [h, List.take_length, List.drop_length, List.append_nil]⟩
  | succ d ih =>
    intro i l fuel hi h1 hf h
    obtain ⟨fuel, rfl⟩ : ∃ k, fuel = k + 1 := ⟨fuel - 1, by omega⟩
    have hik : i < ks.length := by omega
    have q : (i : Int) < (ks.length : Int) := by omega
    have hl : l.length = ks.length := by rw [← kOf_length (l := l), h, List.length_append, srtA_length, List.length_take, List.length_drop]; omega
    have hx : ks.drop i = ks[i] :: ks.drop (i + 1) := List.drop_eq_getElem_cons hik
    have hS : ((srtA (ks.take i)).reverse).length = i := by rw [List.length_reverse, srtA_length, List.length_take]; omega
    obtain ⟨c, r, g1, g2⟩ := ins2_it ((srtA (ks.take i)).reverse) l (ks.drop (i + 1)) ks[i] (ks.length + 1) (by rw [List.reverse_reverse, h, hx]) (by omega) (by omega)
    rw [hS] at g1
    have g3 : kOf r = srtA (ks.take (i + 1)) ++ ks.drop (i + 1) := by
      rw [g2, insR_is (by rw [List.reverse_reverse]; exact srtA_asc _), List.reverse_reverse]
      congr 1
      unfold srtA
      rw [List.take_succ_eq_append_getElem hik, List.foldl_append]
      rfl
    have p1 : ins_L2_p 0 (ks.length : Int) (i : Int) l = true := by unfold ins_L2_p; rw [Int.toNat_natCast, g1]; rfl
    have p2 : (ins_L2_v 0 (ks.length : Int) (i : Int) l).2 = r := by unfold ins_L2_v loopRes; rw [Int.toNat_natCast, g1]; rfl
    have hst : ins_L0_step 0 (ks.length : Int) ((i : Int), l) = some (.inl (((i + 1 : Nat) : Int), r)) := by
      simp only [ins_L0_step, cond_dec q, p1, cond_true, p2, wrap_succ (k := i) (by omega)]
    rw [iter_inl hst]
    exact ih (i + 1) r fuel (by omega) (by omega) (by omega) g3
theorem ins_ok {l : List (List Ct)} (h1 : 1 ≤ l.length) (hb : l.length ≤ 1048576) : ∃ r, ins_res l 0 (l.length : Int) = some r ∧ ins_v l 0 (l.length : Int) = r ∧ kOf r = srtA (kOf l) := by
  have hk := kOf_length (l := l)
  obtain ⟨c, r, g1, g2⟩ := ins_it (ks := kOf l) (by omega) (l.length - 1) 1 l (l.length + 1) (by omega) (by omega) (by omega) (by
    cases h : kOf l with
    | nil => rw [h] at hk; simp at hk; omega
    | cons x ks => rfl)
  rw [hk] at g1
  have w : IntKind.i64.wrap ((0 : Int) + 1) = ((1 : Nat) : Int) := rfl
  have p1 : ins_L0_p l 0 (l.length : Int) = true := by unfold ins_L0_p; rw [Int.toNat_natCast, w, g1]; rfl
  have hr : ins_res l 0 (l.length : Int) = some r := by unfold ins_res ins_L0_v loopRes; rw [p1, Int.toNat_natCast, w, g1]; rfl
  exact ⟨r, hr, by unfold ins_v; rw [hr]; rfl, g2⟩
theorem stb_few {l : List (List Ct)} (h1 : 1 ≤ l.length) (hb : l.length ≤ 19) : ∃ r, stb_res l (l.length : Int) = some r ∧ stb_v l (l.length : Int) = r ∧ kOf r = srtA (kOf l) := by
  obtain ⟨r, g1, g2, g3⟩ := ins_ok h1 (by omega)
  have q : ¬ ((20 : Int) ≤ (l.length : Int)) := by omega
  have q2 : ¬ ((20 : Int) < (l.length : Int)) := by omega
  have i1 : iter (stb_L0_step (l.length : Int)) ((l.length : Int).toNat + 1) (0, 20, l) = some (0, 20, l) := iter_inr (by simp only [stb_L0_step, cond_not q])
  have p1 : stb_L0_p l (l.length : Int) = true := by unfold stb_L0_p; rw [i1]; rfl
  have p2 : stb_L0_v l (l.length : Int) = (0, 20, l) := by unfold stb_L0_v loopRes; rw [i1]; rfl
  have i2 : iter (stb_L2_step (l.length : Int)) ((l.length : Int).toNat + 1) (20, 0, 20, r) = some (20, 0, 20, r) := iter_inr (by simp only [stb_L2_step, cond_not q2])
  have hr : stb_res l (l.length : Int) = some r := by
    unfold stb_res
    rw [p1, p2, cond_true, g1]
    unfold stb_L2_p stb_L2_v loopRes
    rw [p2, g2, i2]
    rfl
  exact ⟨r, hr, by unfold stb_v; rw [hr]; rfl, g3⟩
/-- Of those of one time the last one, row by row. -/
theorem tmk_it {x1 L : List (List Ct)} (hL : stb_v ([] ++ x1) (([] ++ x1).length : Int) = L) (hb : L.length ≤ 1048576) : ∀ (d k : Nat) (vl : List (List Ct)) (fuel : Nat), k + d = L.length → d < fuel → vl.length ≤ k →
    ∃ c r, iter (tmk_L0_step x1) fuel ((k : Int), vl) = some (c, r) ∧ kOf r = kOf vl ++ dd ((kOf L).drop k) := by
  have hk := kOf_length (l := L)
  intro d
  induction d with
  | zero =>
    intro k vl fuel hd hf hv
    obtain ⟨fuel, rfl⟩ : ∃ k, fuel = k + 1 := ⟨fuel - 1, by omega⟩
    obtain rfl : k = L.length := by omega
    have q : ¬ ((L.length : Int) < (L.length : Int)) := by omega
    refine ⟨_, vl, iter_inr (r := ((L.length : Int), vl)) (by simp only [tmk_L0_step, hL, cond_not q]), ?_⟩
    rw [← hk, List.drop_length]; simp [dd]
  | succ d ih =>
    intro k vl fuel hd hf hv
    obtain ⟨fuel, rfl⟩ : ∃ k, fuel = k + 1 := ⟨fuel - 1, by omega⟩
    have q : (k : Int) < (L.length : Int) := by omega
    have q2 : (0 : Int) ≤ (k : Int) ∧ (k : Int) < (L.length : Int) := by omega
    have w := wrap_succ (k := k) (by omega)
    have hx : (kOf L).drop k = ((rd L k 0).int, (rd L k 1).int, (rd L k 2).int, (rd L k 3).int) :: (kOf L).drop (k + 1) := by
      rw [List.drop_eq_getElem_cons (by omega)]
      congr 1
      have := kOf_rd (l := L) (i := k) (by omega)
      rw [List.getElem?_eq_getElem (by omega)] at this
      exact Option.some.inj this
    have q5 : vl.length + [[Ct.i (rd L k 0).int, Ct.i (rd L k 1).int, Ct.i (rd L k 2).int, Ct.i (rd L k 3).int]].length ≤ 9223372036854775807 ∧ (vl.length + [[Ct.i (rd L k 0).int, Ct.i (rd L k 1).int, Ct.i (rd L k 2).int, Ct.i (rd L k 3).int]].length) * 32 ≤ 140737488355328 := by simp only [List.length_cons, List.length_nil]; omega
    by_cases c : k + 1 < L.length
    · have q3 : ((k + 1 : Nat) : Int) < (L.length : Int) := by omega
      have q4 : (0 : Int) ≤ ((k + 1 : Nat) : Int) ∧ ((k + 1 : Nat) : Int) < (L.length : Int) := by omega
      have hy : (kOf L).drop (k + 1) = ((rd L (k + 1) 0).int, (rd L (k + 1) 1).int, (rd L (k + 1) 2).int, (rd L (k + 1) 3).int) :: (kOf L).drop (k + 1 + 1) := by
        rw [List.drop_eq_getElem_cons (by omega)]
        congr 1
        have := kOf_rd (l := L) (i := k + 1) (by omega)
        rw [List.getElem?_eq_getElem (by omega)] at this
        exact Option.some.inj this
      by_cases e : (rd L (k + 1) 0).int = (rd L k 0).int
      · have e' : ((rd L (k + 1) 0).int == (rd L k 0).int) = true := by simpa using e
        have hst : tmk_L0_step x1 ((k : Int), vl) = some (.inl (((k + 1 : Nat) : Int), vl)) := by
          simp only [tmk_L0_step, hL, cond_dec q, cond_dec q2, w, cond_dec q3, cond_dec q4, Int.toNat_natCast, e', cond_true]
        rw [iter_inl hst]
        obtain ⟨c', r, g1, g2⟩ := ih (k + 1) vl fuel (by omega) (by omega) (by omega)
        refine ⟨c', r, g1, ?_⟩
        rw [g2, hx, hy]
        simp only [dd, if_pos e]
      · have e' : ((rd L (k + 1) 0).int == (rd L k 0).int) = false := by simpa using e
        have hst : tmk_L0_step x1 ((k : Int), vl) = some (.inl (((k + 1 : Nat) : Int), vl ++ [[.i (rd L k 0).int, .i (rd L k 1).int, .i (rd L k 2).int, .i (rd L k 3).int]])) := by
          simp only [tmk_L0_step, hL, cond_dec q, cond_dec q2, w, cond_dec q3, cond_dec q4, Int.toNat_natCast, e', cond_false, cond_dec q5]
        rw [iter_inl hst]
        obtain ⟨c', r, g1, g2⟩ := ih (k + 1) (vl ++ [[.i (rd L k 0).int, .i (rd L k 1).int, .i (rd L k 2).int, .i (rd L k 3).int]]) fuel (by omega) (by omega) (by simp; omega)
        refine ⟨c', r, g1, ?_⟩
        rw [g2, hx, hy, kOf_app, kOf_one]
        simp only [dd, if_neg e, List.append_assoc, List.singleton_append]
        rfl
    · have q3 : ¬ ((k + 1 : Nat) : Int) < (L.length : Int) := by omega
      have hst : tmk_L0_step x1 ((k : Int), vl) = some (.inl (((k + 1 : Nat) : Int), vl ++ [[.i (rd L k 0).int, .i (rd L k 1).int, .i (rd L k 2).int, .i (rd L k 3).int]])) := by
        simp only [tmk_L0_step, hL, cond_dec q, cond_dec q2, w, cond_not q3, Int.toNat_natCast, cond_dec q5]
      rw [iter_inl hst]
      obtain ⟨c', r, g1, g2⟩ := ih (k + 1) (vl ++ [[.i (rd L k 0).int, .i (rd L k 1).int, .i (rd L k 2).int, .i (rd L k 3).int]]) fuel (by omega) (by omega) (by simp; omega)
      refine ⟨c', r, g1, ?_⟩
      have hn : (kOf L).drop (k + 1) = [] := List.drop_eq_nil_of_le (by omega)
      rw [g2, hx, hn, kOf_app, kOf_one]
      simp only [dd, List.append_assoc, List.append_nil]
      rfl
/-- The document's round, key by key. -/
def rg (x : K4) : Bool → List K4 → Bool × List K4
  | d, [] => (d, [])
  | d, m :: M => if m.1 = x.1 then ((rg x true M).1, x :: (rg x true M).2) else if m.1 > x.1 then (if d = true then ((rg x true M).1, m :: (rg x true M).2) else ((rg x true M).1, x :: m :: (rg x true M).2)) else ((rg x d M).1, m :: (rg x d M).2)
theorem rg_after {x : K4} : ∀ {M : List K4}, (∀ z ∈ M, x.1 < z.1) → rg x true M = (true, M) := by
  intro M
  induction M with
  | nil => intro _; rfl
  | cons m M ih =>
    intro h
    have hm := h m (by simp)
    have := ih fun z hz => h z (by simp [hz])
    simp only [rg, this]
    rw [if_neg (by omega), if_pos hm]
    simp
theorem rg_is {x : K4} : ∀ {M : List K4}, Strict M → (bif (rg x false M).1 then (rg x false M).2 else (rg x false M).2 ++ [x]) = insU x M := by
  intro M
  induction M with
  | nil => intro _; rfl
  | cons m M ih =>
    intro h
    have h1 := List.pairwise_cons.1 h
    simp only [rg, insU]
    by_cases e : m.1 = x.1
    · rw [if_pos e, if_pos e, rg_after fun z hz => by have := h1.1 z hz; omega]; rfl
    · rw [if_neg e, if_neg e]
      by_cases c : m.1 > x.1
      · rw [if_pos c, if_neg (by simp), rg_after fun z hz => by have := h1.1 z hz; omega, if_pos c]; rfl
      · rw [if_neg c, if_neg c, ← ih h1.2]
        cases (rg x false M).1 <;> rfl
theorem rg_len {x : K4} : ∀ {M : List K4} {d : Bool}, (rg x d M).2.length ≤ 2 * M.length := by
  intro M
  induction M with
  | nil => intro d; simp [rg]
  | cons m M ih =>
    intro d
    simp only [rg]
    have i1 := ih (d := true)
    have i2 := ih (d := d)
    split
    · simp; omega
    split
    · split
      · simp; omega
      · simp; omega
    · simp; omega
theorem rmk2_it {x1 V : List (List Ct)} {i : Nat} (hV : V.length ≤ 1048576) : ∀ (dn k : Nat) (d : Bool) (vl : List (List Ct)) (fuel : Nat), k + dn = V.length → dn < fuel → vl.length ≤ 2 * k →
    ∃ c r, iter (rmk_L2_step x1 (i : Int) V) fuel (d, (k : Int), vl) = some ((rg ((rd x1 i 0).int, (rd x1 i 1).int, (rd x1 i 2).int, (rd x1 i 3).int) d ((kOf V).drop k)).1, c, r) ∧ kOf r = kOf vl ++ (rg ((rd x1 i 0).int, (rd x1 i 1).int, (rd x1 i 2).int, (rd x1 i 3).int) d ((kOf V).drop k)).2 := by
  have hk := kOf_length (l := V)
  generalize hx : ((rd x1 i 0).int, (rd x1 i 1).int, (rd x1 i 2).int, (rd x1 i 3).int) = x
  intro dn
  induction dn with
  | zero =>
    intro k d vl fuel hd hf hv
    obtain ⟨fuel, rfl⟩ : ∃ k, fuel = k + 1 := ⟨fuel - 1, by omega⟩
    obtain rfl : k = V.length := by omega
    have q : ¬ ((V.length : Int) < (V.length : Int)) := by omega
    have e : (kOf V).drop V.length = [] := List.drop_eq_nil_of_le (by omega)
    rw [e]
    exact ⟨_, vl, iter_inr (r := (d, (V.length : Int), vl)) (by simp only [rmk_L2_step, cond_not q]), by simp [rg]⟩
  | succ dn ih =>
    intro k d vl fuel hd hf hv
    obtain ⟨fuel, rfl⟩ : ∃ k, fuel = k + 1 := ⟨fuel - 1, by omega⟩
    have q : (k : Int) < (V.length : Int) := by omega
    have q2 : (0 : Int) ≤ (k : Int) ∧ (k : Int) < (V.length : Int) := by omega
    have w := wrap_succ (k := k) (by omega)
    have hm : (kOf V).drop k = ((rd V k 0).int, (rd V k 1).int, (rd V k 2).int, (rd V k 3).int) :: (kOf V).drop (k + 1) := by
      rw [List.drop_eq_getElem_cons (by omega)]
      congr 1
      have := kOf_rd (l := V) (i := k) (by omega)
      rw [List.getElem?_eq_getElem (by omega)] at this
      exact Option.some.inj this
    have room : ∀ (v : List (List Ct)) (r : List Ct), v.length ≤ 2 * k + 1 → v.length + [r].length ≤ 9223372036854775807 ∧ (v.length + [r].length) * 32 ≤ 140737488355328 := fun v r h => by simp only [List.length_cons, List.length_nil]; omega
    have hx0 : x.1 = (rd x1 i 0).int := by rw [← hx]
    rw [hm]
    simp only [rg]
    by_cases e : (rd V k 0).int = (rd x1 i 0).int
    · have e' : ((rd V k 0).int == (rd x1 i 0).int) = true := by simpa using e
      have hst : rmk_L2_step x1 (i : Int) V (d, (k : Int), vl) = some (.inl (true, ((k + 1 : Nat) : Int), vl ++ [[.i (rd x1 i 0).int, .i (rd x1 i 1).int, .i (rd x1 i 2).int, .i (rd x1 i 3).int]])) := by
        simp only [rmk_L2_step, cond_dec q, cond_dec q2, w, Int.toNat_natCast, e', cond_true]
        rw [cond_dec (room _ _ (by omega))]
      rw [iter_inl hst, if_pos (by rw [hx0]; exact e)]
      obtain ⟨c', r, g1, g2⟩ := ih (k + 1) true (vl ++ [[.i (rd x1 i 0).int, .i (rd x1 i 1).int, .i (rd x1 i 2).int, .i (rd x1 i 3).int]]) fuel (by omega) (by omega) (by simp; omega)
      refine ⟨c', r, g1, ?_⟩
      rw [g2, kOf_app, kOf_one, ← hx]
      simp only [List.append_assoc, List.singleton_append, Ct.int]
    · have e' : ((rd V k 0).int == (rd x1 i 0).int) = false := by simpa using e
      rw [if_neg (by rw [hx0]; exact e)]
      by_cases g : (rd V k 0).int > (rd x1 i 0).int
      · rw [if_pos (by rw [hx0]; exact g)]
        cases d with
        | true =>
          have hst : rmk_L2_step x1 (i : Int) V (true, (k : Int), vl) = some (.inl (true, ((k + 1 : Nat) : Int), vl ++ [[.i (rd V k 0).int, .i (rd V k 1).int, .i (rd V k 2).int, .i (rd V k 3).int]])) := by
            simp only [rmk_L2_step, cond_dec q, cond_dec q2, w, Int.toNat_natCast, e', cond_false, cond_dec g, Bool.not_true]
            rw [cond_dec (room _ _ (by omega))]
          rw [iter_inl hst, if_pos rfl]
          obtain ⟨c', r, g1, g2⟩ := ih (k + 1) true (vl ++ [[.i (rd V k 0).int, .i (rd V k 1).int, .i (rd V k 2).int, .i (rd V k 3).int]]) fuel (by omega) (by omega) (by simp; omega)
          refine ⟨c', r, g1, ?_⟩
          rw [g2, kOf_app, kOf_one]
          simp only [List.append_assoc, List.singleton_append, Ct.int]
        | false =>
          have hst : rmk_L2_step x1 (i : Int) V (false, (k : Int), vl) = some (.inl (true, ((k + 1 : Nat) : Int), vl ++ [[.i (rd x1 i 0).int, .i (rd x1 i 1).int, .i (rd x1 i 2).int, .i (rd x1 i 3).int]] ++ [[.i (rd V k 0).int, .i (rd V k 1).int, .i (rd V k 2).int, .i (rd V k 3).int]])) := by
            simp only [rmk_L2_step, cond_dec q, cond_dec q2, w, Int.toNat_natCast, e', cond_false, cond_dec g, Bool.not_false, cond_true]
            rw [cond_dec (room _ _ (by omega)), cond_dec (room _ _ (by simp; omega))]
          rw [iter_inl hst, if_neg (by simp)]
          obtain ⟨c', r, g1, g2⟩ := ih (k + 1) true (vl ++ [[.i (rd x1 i 0).int, .i (rd x1 i 1).int, .i (rd x1 i 2).int, .i (rd x1 i 3).int]] ++ [[.i (rd V k 0).int, .i (rd V k 1).int, .i (rd V k 2).int, .i (rd V k 3).int]]) fuel (by omega) (by omega) (by simp; omega)
          refine ⟨c', r, g1, ?_⟩
          rw [g2, kOf_app, kOf_app, kOf_one, kOf_one, ← hx]
          simp only [List.append_assoc, List.singleton_append, List.cons_append, List.nil_append, Ct.int]
      · rw [if_neg (by rw [hx0]; exact g)]
        have hst : rmk_L2_step x1 (i : Int) V (d, (k : Int), vl) = some (.inl (d, ((k + 1 : Nat) : Int), vl ++ [[.i (rd V k 0).int, .i (rd V k 1).int, .i (rd V k 2).int, .i (rd V k 3).int]])) := by
          simp only [rmk_L2_step, cond_dec q, cond_dec q2, w, Int.toNat_natCast, e', cond_false, cond_not g]
          rw [cond_dec (room _ _ (by omega))]
        rw [iter_inl hst]
        obtain ⟨c', r, g1, g2⟩ := ih (k + 1) d (vl ++ [[.i (rd V k 0).int, .i (rd V k 1).int, .i (rd V k 2).int, .i (rd V k 3).int]]) fuel (by omega) (by omega) (by simp; omega)
        refine ⟨c', r, g1, ?_⟩
        rw [g2, kOf_app, kOf_one]
        simp only [List.append_assoc, List.singleton_append, Ct.int]
theorem srtU_length (l : List K4) : (srtU l).length ≤ l.length := by rw [← srt_both]; exact Nat.le_trans (dd_length _) (by rw [srtA_length]; exact Nat.le_refl _)
theorem srtU_strict (l : List K4) : Strict (srtU l) := by
  suffices h : ∀ (l A : List K4), Strict A → Strict (l.foldl (fun M x => insU x M) A) from h l [] List.Pairwise.nil
  intro l
  induction l with
  | nil => intro A h; exact h
  | cons x l ih => intro A h; exact ih _ (insU_strict h)
theorem rmk_it {x1 : List (List Ct)} (hb : x1.length ≤ 40) : ∀ (d i : Nat) (vl : List (List Ct)) (fuel : Nat), i + d = x1.length → d < fuel → kOf vl = srtU ((kOf x1).take i) →
    ∃ c r, iter (rmk_L0_step x1) fuel ((i : Int), vl) = some (c, r) ∧ kOf r = srtU (kOf x1) := by
  have hk := kOf_length (l := x1)
  intro d
  induction d with
  | zero =>
    intro i vl fuel hi hf h
    obtain ⟨fuel, rfl⟩ : ∃ k, fuel = k + 1 := ⟨fuel - 1, by omega⟩
    obtain rfl : i = x1.length := by omega
    have q : ¬ ((x1.length : Int) < (x1.length : Int)) := by omega
    exact ⟨_, vl, iter_inr (r := ((x1.length : Int), vl)) (by simp only [rmk_L0_step, cond_not q]), by rw [h, ← hk, List.take_length]⟩
  | succ d ih =>
    intro i vl fuel hi hf h
    obtain ⟨fuel, rfl⟩ : ∃ k, fuel = k + 1 := ⟨fuel - 1, by omega⟩
    have q : (i : Int) < (x1.length : Int) := by omega
    have q2 : (0 : Int) ≤ (i : Int) ∧ (i : Int) < (x1.length : Int) := by omega
    have w := wrap_succ (k := i) (by omega)
    have hvl : vl.length ≤ i := by rw [← kOf_length (l := vl), h]; refine Nat.le_trans (srtU_length _) ?_; rw [List.length_take]; omega
    obtain ⟨c, r, g1, g2⟩ := rmk2_it (x1 := x1) (V := vl) (i := i) (by omega) vl.length 0 false [] (x1.length + 1) (by omega) (by omega) (by simp)
    rw [List.drop_zero] at g1 g2
    have hx : (kOf x1).take (i + 1) = (kOf x1).take i ++ [((rd x1 i 0).int, (rd x1 i 1).int, (rd x1 i 2).int, (rd x1 i 3).int)] := by
      have := kOf_rd (l := x1) (i := i) (by omega)
      rw [List.take_add_one, this]; rfl
    generalize hxx : ((rd x1 i 0).int, (rd x1 i 1).int, (rd x1 i 2).int, (rd x1 i 3).int) = x at g1 g2 hx
    have hs : srtU ((kOf x1).take (i + 1)) = insU x (kOf vl) := by rw [hx, h]; simp [srtU]
    have his := rg_is (x := x) (M := kOf vl) (by rw [h]; exact srtU_strict _)
    rw [show ((0 : Nat) : Int) = 0 from rfl] at g1
    have p1 : rmk_L2_p x1 (i : Int) vl = true := by unfold rmk_L2_p; rw [g1]; rfl
    have p2 : rmk_L2_v x1 (i : Int) vl = ((rg x false (kOf vl)).1, c, r) := by unfold rmk_L2_v loopRes; rw [g1]; rfl
    have hrl : r.length ≤ 2 * i := by rw [← kOf_length (l := r), g2]; have := rg_len (x := x) (M := kOf vl) (d := false); rw [kOf_length] at this; show (kOf [] ++ _).length ≤ _; simp only [kOf, List.map_nil, List.nil_append]; exact Nat.le_trans this (by omega)
    cases hd : (rg x false (kOf vl)).1 with
    | true =>
      have hst : rmk_L0_step x1 ((i : Int), vl) = some (.inl (((i + 1 : Nat) : Int), r)) := by
        simp only [rmk_L0_step, cond_dec q, cond_dec q2, p1, p2, hd, Bool.not_true, cond_true, cond_false, w]
      rw [iter_inl hst]
      rw [hd] at his
      exact ih (i + 1) r fuel (by omega) (by omega) (by rw [hs, ← his, g2]; rfl)
    | false =>
      have hst : rmk_L0_step x1 ((i : Int), vl) = some (.inl (((i + 1 : Nat) : Int), r ++ [[.i (rd x1 i 0).int, .i (rd x1 i 1).int, .i (rd x1 i 2).int, .i (rd x1 i 3).int]])) := by
        simp only [rmk_L0_step, cond_dec q, cond_dec q2, p1, p2, hd, Bool.not_false, cond_true, Int.toNat_natCast, w]
        rw [cond_dec (by simp only [List.length_cons, List.length_nil]; omega)]
      rw [iter_inl hst]
      rw [hd] at his
      exact ih (i + 1) (r ++ [[.i (rd x1 i 0).int, .i (rd x1 i 1).int, .i (rd x1 i 2).int, .i (rd x1 i 3).int]]) fuel (by omega) (by omega) (by rw [hs, ← his, kOf_app, g2, kOf_one, ← hxx]; rfl)
theorem same4_of {a b : List (List Ct)} (h : kOf a = kOf b) : Same4 a b := by
  obtain ⟨h1, h2⟩ := kOf_same h
  refine ⟨h1, fun i hi j hj => ?_⟩
  obtain ⟨e0, e1, e2, e3⟩ := h2 i hi
  have c : j = 0 ∨ j = 1 ∨ j = 2 ∨ j = 3 := by omega
  rcases c with rfl | rfl | rfl | rfl <;> assumption
/-- A track that is made, both ways. -/
theorem make_any {w : Int} {a b : List (List Ct)} (h1 : 1 ≤ a.length) (hb : a.length ≤ 40) (hstb : ∃ r, stb_res a (a.length : Int) = some r ∧ stb_v a (a.length : Int) = r ∧ r.length = a.length ∧ dd (kOf r) = srtU (kOf a)) (h : kOf a = kOf b) :
    ∃ w' e r s, (tmk_res w a = some (w', e, r) ∧ tmk_v w a = (w', e, r)) ∧ (rmk_res w b = some (w', e, s) ∧ rmk_v w b = (w', e, s)) ∧ kOf r = kOf s ∧ r.length ≤ 40 ∧ (e = 0 → RightT w' r ∧ w' = w ∧ kOf r = srtU (kOf a)) ∧ (e ≠ 0 → e = 23 ∧ w' = 0 ∧ r = [] ∧ s = []) := by
  obtain ⟨L, l1, l2, hL, l3⟩ := hstb
  have hl := (kOf_same h).1
  have q0 : 0 < a.length := by omega
  have q1 : 0 + a.length ≤ 9223372036854775807 ∧ (0 + a.length) * 32 ≤ 140737488355328 := by omega
  obtain ⟨c, r, g1, g2⟩ := tmk_it (x1 := a) (L := L) (by rw [List.nil_append]; exact l2) (by omega) L.length 0 [] (a.length + 1) (by omega) (by omega) (by simp)
  obtain ⟨c', s, g3, g4⟩ := rmk_it (x1 := b) (by omega) b.length 0 [] (b.length + 1) (by omega) (by omega) rfl
  rw [show ((0 : Nat) : Int) = 0 from rfl] at g1 g3
  have hrs : kOf r = kOf s := by
    rw [g2, g4, List.drop_zero, l3, h]; rfl
  have hrl : r.length ≤ 40 := by rw [← kOf_length (l := r), hrs, g4]; refine Nat.le_trans (srtU_length _) ?_; rw [kOf_length]; omega
  have p1 : tmk_L0_p a = true := by unfold tmk_L0_p; rw [g1]; rfl
  have p2 : (tmk_L0_v a).2 = r := by unfold tmk_L0_v loopRes; rw [g1]; rfl
  have p3 : rmk_L0_p b = true := by unfold rmk_L0_p; rw [g3]; rfl
  have p4 : (rmk_L0_v b).2 = s := by unfold rmk_L0_v loopRes; rw [g3]; rfl
  obtain ⟨b1, ⟨t1, t2⟩, t3⟩ := trt_is (w := w) (l := r)
  obtain ⟨b2, ⟨t4, t5⟩, t6⟩ := rrt_is (w := w) (l := s)
  have hb12 : b1 = b2 := by
    have : b1 = true ↔ b2 = true := by rw [t3, t6, RightT.same (same4_of hrs)]
    cases b1 <;> cases b2 <;> simp_all
  subst hb12
  cases b1 with
  | true =>
    have e1 : tmk_res w a = some (w, 0, r) := by
      unfold tmk_res
      simp only [cond_dec q0, cond_dec q1, List.nil_append, l1, Option.isSome_some, p1, p2, t1, t2, cond_true, Bool.not_true, cond_false]
    have e2 : rmk_res w b = some (w, 0, s) := by
      unfold rmk_res
      simp only [p3, p4, t4, t5, Option.isSome_some, cond_true, Bool.not_true, cond_false]
    exact ⟨w, 0, r, s, ⟨e1, by unfold tmk_v; rw [e1]; rfl⟩, ⟨e2, by unfold rmk_v; rw [e2]; rfl⟩, hrs, hrl, fun _ => ⟨t3.1 rfl, rfl, by rw [hrs, g4, h]⟩, fun h => absurd rfl h⟩
  | false =>
    have e1 : tmk_res w a = some (0, 23, []) := by
      unfold tmk_res
      simp only [cond_dec q0, cond_dec q1, List.nil_append, l1, Option.isSome_some, p1, p2, t1, t2, cond_true, Bool.not_false]
    have e2 : rmk_res w b = some (0, 23, []) := by
      unfold rmk_res
      simp only [p3, p4, t4, t5, Option.isSome_some, cond_true, Bool.not_false]
    exact ⟨0, 23, [], [], ⟨e1, by unfold tmk_v; rw [e1]; rfl⟩, ⟨e2, by unfold rmk_v; rw [e2]; rfl⟩, rfl, by simp, fun h => by omega, fun _ => ⟨rfl, rfl, rfl, rfl⟩⟩
theorem make_ok {w : Int} {a b : List (List Ct)} (h1 : 1 ≤ a.length) (hb : a.length ≤ 40) (hstb : ∃ r, stb_res a (a.length : Int) = some r ∧ stb_v a (a.length : Int) = r ∧ kOf r = srtA (kOf a)) (h : kOf a = kOf b) :
    ∃ w' e r s, (tmk_res w a = some (w', e, r) ∧ tmk_v w a = (w', e, r)) ∧ (rmk_res w b = some (w', e, s) ∧ rmk_v w b = (w', e, s)) ∧ kOf r = kOf s ∧ r.length ≤ 40 ∧ (e = 0 → RightT w' r ∧ w' = w ∧ kOf r = srtU (kOf a)) ∧ (e ≠ 0 → e = 23 ∧ w' = 0 ∧ r = [] ∧ s = []) := by
  obtain ⟨r, g1, g2, g3⟩ := hstb
  exact make_any h1 hb ⟨r, g1, g2, by rw [← kOf_length (l := r), g3, srtA_length, kOf_length], by rw [g3, srt_both]⟩ h
end Go.Proofs.Ytmpaelkjooahoaa
