/- Trees: the program's nodes, in plain numbers. No condition. -/
import Derived.Test.YtpfaejbdbdjhhaaTrP2
import Derived.Test.YtpfaejbdbdjhhaaEngTr8
set_option linter.unusedVariables false
set_option linter.unusedSimpArgs false
namespace Go.Proofs.Ytpfaejbdbdjhhaa
open Go.RowKit

theorem nodes_perm (Q : List (List Ct)) : ∀ (k base first : Nat) (l : List Int), 0 < l.length → l.length ≤ k → (nodesL Q k base first l).2.Perm l ∧ (nodesL Q k base first l).1.length + 1 ≤ 2 * l.length ∧ 0 < (nodesL Q k base first l).1.length := by
  intro k
  induction k with
  | zero => intro base first l h0 h1; omega
  | succ k ih =>
    intro base first l h0 h1
    unfold nodesL
    by_cases h4 : l.length ≤ 4
    · rw [if_pos h4]; exact ⟨List.Perm.refl _, by simp; omega, by simp⟩
    · rw [if_neg h4]
      obtain ⟨p1, p2⟩ := split_pos Q (l := l) (by omega)
      have hs := split_len Q l
      obtain ⟨a1, a2, a3⟩ := ih (base + 1) first (splitL Q l).1 p1 (by omega)
      obtain ⟨b1, b2, b3⟩ := ih (base + 1 + (nodesL Q k (base + 1) first (splitL Q l).1).1.length) (first + (splitL Q l).1.length) (splitL Q l).2 p2 (by omega)
      exact ⟨(a1.append b1).trans (split_perm Q l), by simp only [List.length_cons, List.length_append]; omega, by simp⟩
theorem nodes_fuel (Q : List (List Ct)) : ∀ (k k' base first : Nat) (l : List Int), 0 < l.length → l.length ≤ k → l.length ≤ k' → nodesL Q k base first l = nodesL Q k' base first l := by
  intro k
  induction k with
  | zero => intro k' base first l h0 h1 h2; omega
  | succ k ih =>
    intro k' base first l h0 h1 h2
    obtain ⟨k', rfl⟩ : ∃ j, k' = j + 1 := ⟨k' - 1, by omega⟩
    unfold nodesL
    by_cases h4 : l.length ≤ 4
    · rw [if_pos h4, if_pos h4]
    · rw [if_neg h4, if_neg h4]
      obtain ⟨p1, p2⟩ := split_pos Q (l := l) (by omega)
      have hs := split_len Q l
      rw [ih k' (base + 1) first (splitL Q l).1 p1 (by omega) (by omega)]
      simp only
      rw [ih k' _ _ (splitL Q l).2 p2 (by omega) (by omega)]
theorem set_mid {n rest : List (List Ct)} {r r' : List Ct} : (n ++ r :: rest).set n.length r' = n ++ r' :: rest := by
  rw [List.set_append_right _ _ (Nat.le_refl _), Nat.sub_self]; rfl
theorem get_mid {n rest : List (List Ct)} {r : List Ct} : (n ++ r :: rest).getD n.length [] = r := by
  rw [List.getD_eq_getElem?_getD, List.getElem?_append_right (Nat.le_refl _), Nat.sub_self]; rfl
theorem upd_left (p : P12) (x y f c v : Int) : updRow 16 12 [.i v] (row16 p x y f c) = row16 p v y f c := rfl
theorem upd_right (p : P12) (x y f c v : Int) : updRow 16 13 [.i v] (row16 p x y f c) = row16 p x v f c := rfl
theorem upd_first (p : P12) (x y f c v : Int) : updRow 16 14 [.i v] (row16 p x y f c) = row16 p x y v c := rfl
theorem upd_count (p : P12) (x y f c v : Int) : updRow 16 15 [.i v] (row16 p x y f c) = row16 p x y f v := rfl
/-- What is known of a call of a node. -/
def NodeOk (I : TnoIn) (k : Nat) : Prop := ∀ (n o Q m : List (List Ct)) (A l B : List Int), col o = A ++ l ++ B → 0 < l.length → l.length ≤ k → A.length + l.length ≤ 1000 → n.length + 2 * l.length ≤ 10000 → (∀ i ∈ l, 0 ≤ i ∧ i < Q.length) → Mids Q m →
  I.p n o Q m ((A.length : Nat) : Int) ((A.length + l.length : Nat) : Int) = true ∧ ∃ o', I.v n o Q m ((A.length : Nat) : Int) ((A.length + l.length : Nat) : Int) = ((n.length : Int), o', n ++ (nodesL Q k n.length A.length l).1) ∧ col o' = A ++ (nodesL Q k n.length A.length l).2 ++ B
theorem node_step {I : TnoIn} {k : Nat} (ih : NodeOk I k) {n o Q m : List (List Ct)} {A l B : List Int} (h : col o = A ++ l ++ B) (h0 : 0 < l.length) (hk : l.length ≤ k + 1) (hA : A.length + l.length ≤ 1000) (hn : n.length + 2 * l.length ≤ 10000) (hr : ∀ i ∈ l, 0 ≤ i ∧ i < Q.length) (hm : Mids Q m) :
    ∃ o', @tno_res I n o Q m ((A.length : Nat) : Int) ((A.length + l.length : Nat) : Int) = some ((n.length : Int), o', Q, m, n ++ (nodesL Q (k + 1) n.length A.length l).1) ∧ col o' = A ++ (nodesL Q (k + 1) n.length A.length l).2 ++ B := by
  have hl : l.length ≤ 1000 := by omega
  have ol : o.length = A.length + l.length + B.length := by rw [← col_length, h]; simp only [List.length_append]
  have e1 : A.length + l.length - A.length = l.length := by omega
  have ta := tap_is (Q := Q) h h0 hl hr
  have va : tap_v o Q (A.length : Int) (l.length : Int) = arL Q l := by unfold tap_v; rw [ta]; rfl
  have c1 : tno_c66597147 o Q ((A.length : Nat) : Int) ((A.length + l.length : Nat) : Int) = arL Q l := by unfold tno_c66597147; simp only [Int.toNat_natCast, e1]; exact va
  have q1 : (0 : Int) ≤ ((A.length : Nat) : Int) ∧ ((A.length : Nat) : Int) ≤ ((A.length + l.length : Nat) : Int) ∧ ((A.length + l.length : Nat) : Int) ≤ (o.length : Int) ∧ 0 < o.length := ⟨by omega, by omega, by omega, by omega⟩
  have hRR : [[Ct.i (tno_c66597147 o Q ((A.length : Nat) : Int) ((A.length + l.length : Nat) : Int)).1, Ct.i (tno_c66597147 o Q ((A.length : Nat) : Int) ((A.length + l.length : Nat) : Int)).2.1, Ct.i (tno_c66597147 o Q ((A.length : Nat) : Int) ((A.length + l.length : Nat) : Int)).2.2.1, Ct.i (tno_c66597147 o Q ((A.length : Nat) : Int) ((A.length + l.length : Nat) : Int)).2.2.2.1, Ct.i (tno_c66597147 o Q ((A.length : Nat) : Int) ((A.length + l.length : Nat) : Int)).2.2.2.2.1, Ct.i (tno_c66597147 o Q ((A.length : Nat) : Int) ((A.length + l.length : Nat) : Int)).2.2.2.2.2.1, Ct.i (tno_c66597147 o Q ((A.length : Nat) : Int) ((A.length + l.length : Nat) : Int)).2.2.2.2.2.2.1, Ct.i (tno_c66597147 o Q ((A.length : Nat) : Int) ((A.length + l.length : Nat) : Int)).2.2.2.2.2.2.2.1, Ct.i (tno_c66597147 o Q ((A.length : Nat) : Int) ((A.length + l.length : Nat) : Int)).2.2.2.2.2.2.2.2.1, Ct.i (tno_c66597147 o Q ((A.length : Nat) : Int) ((A.length + l.length : Nat) : Int)).2.2.2.2.2.2.2.2.2.1, Ct.i (tno_c66597147 o Q ((A.length : Nat) : Int) ((A.length + l.length : Nat) : Int)).2.2.2.2.2.2.2.2.2.2.1, Ct.i (tno_c66597147 o Q ((A.length : Nat) : Int) ((A.length + l.length : Nat) : Int)).2.2.2.2.2.2.2.2.2.2.2, Ct.i (Int.negSucc 0), Ct.i (Int.negSucc 0), Ct.i (0 : Int), Ct.i (0 : Int)]] = [row16 (arL Q l) (-1) (-1) 0 0] := by rw [c1]; rfl
  have q2 : n.length + (0 + 1) ≤ 9223372036854775807 ∧ (n.length + (0 + 1)) * 128 ≤ 140737488355328 := by omega
  have q3 : (0 : Int) ≤ (n.length : Int) ∧ (n.length : Int) < ((n ++ [row16 (arL Q l) (-1) (-1) 0 0]).length : Int) := by simp only [List.length_append, List.length_cons, List.length_nil]; omega
  unfold tno_res
  rw [hRR]
  simp only [Int.toNat_natCast, e1, cond_dec q1, ta, Option.isSome_some, cond_true, List.length_cons, List.length_nil, cond_dec q2]
  unfold nodesL
  by_cases h4 : l.length ≤ 4
  · have h4' : (l.length : Int) ≤ 4 := by omega
    have q4 : ∀ r : List Ct, (0 : Int) ≤ (n.length : Int) ∧ (n.length : Int) < ((n ++ [r]).length : Int) := fun r => by simp only [List.length_append, List.length_cons, List.length_nil]; omega
    refine ⟨o, ?_, ?_⟩
    · rw [if_pos h4]
      simp only [cond_dec h4', cond_dec (q4 _), get_mid, set_mid, upd_first, upd_count]
    · rw [if_pos h4]; exact h
  · have h4' : ¬ (l.length : Int) ≤ 4 := by omega
    rw [if_neg h4]
    simp only [cond_not h4']
    obtain ⟨o1, t1, t2⟩ := tsp_is h (by omega) hl hr hm
    have vs : tsp_v o Q m (A.length : Int) (l.length : Int) = (((splitL Q l).1.length : Int), o1) := by unfold tsp_v; rw [t1]; rfl
    have c2 : tno_c92230238 o Q m ((A.length : Nat) : Int) ((A.length + l.length : Nat) : Int) = (((splitL Q l).1.length : Int), o1) := by unfold tno_c92230238; simp only [Int.toNat_natCast, e1]; exact vs
    obtain ⟨p1, p2⟩ := split_pos Q (l := l) (by omega)
    have hs := split_len Q l
    have hmem : ∀ i, i ∈ (splitL Q l).1 ∨ i ∈ (splitL Q l).2 → i ∈ l := fun i hi => (split_perm Q l).mem_iff.1 (List.mem_append.2 hi)
    generalize (splitL Q l).1 = x at *
    generalize (splitL Q l).2 = y at *
    have w1 : IntKind.i64.wrap (((A.length : Nat) : Int) + (x.length : Int)) = ((A.length + x.length : Nat) : Int) := by rw [wrap_in (by omega) (by omega)]; omega
    have t2' : col o1 = A ++ x ++ (y ++ B) := by rw [t2]; simp only [List.append_assoc]
    obtain ⟨g1, o2, g2, g3⟩ := ih (n ++ [row16 (arL Q l) (-1) (-1) 0 0]) o1 Q m A x (y ++ B) t2' p1 (by omega) (by omega) (by simp only [List.length_append, List.length_cons, List.length_nil]; omega) (fun i hi => hr i (hmem i (.inl hi))) hm
    obtain ⟨n1, n2, n3⟩ := nodes_perm Q k (n ++ [row16 (arL Q l) (-1) (-1) 0 0]).length A.length x p1 (by omega)
    have ll : (n ++ [row16 (arL Q l) (-1) (-1) 0 0]).length = n.length + 1 := by simp
    rw [ll] at g2 g3 n1 n2 n3
    generalize hN : nodesL Q k (n.length + 1) A.length x = N1 at *
    have hN1 := n1.length_eq
    have t3 : col o2 = (A ++ N1.2) ++ y ++ B := by rw [g3]; simp only [List.append_assoc]
    have al : (A ++ N1.2).length = A.length + x.length := by rw [List.length_append, hN1]
    obtain ⟨k1, o3, k2, k3⟩ := ih ((n ++ [row16 (arL Q l) (-1) (-1) 0 0]) ++ N1.1) o2 Q m (A ++ N1.2) y B t3 p2 (by omega) (by rw [al]; omega) (by rw [List.length_append, ll]; omega) (fun i hi => hr i (hmem i (.inr hi))) hm
    have ll2 : ((n ++ [row16 (arL Q l) (-1) (-1) 0 0]) ++ N1.1).length = n.length + 1 + N1.1.length := by rw [List.length_append, ll]
    rw [al, ll2] at k2 k3
    rw [al] at k1
    rw [show A.length + x.length + y.length = A.length + l.length by omega] at k1 k2
    generalize hN' : nodesL Q k (n.length + 1 + N1.1.length) (A.length + x.length) y = N2 at *
    refine ⟨o3, ?_, ?_⟩
    · simp only [t1, c2, w1, g1, g2, k1, k2, Option.isSome_some, cond_true]
      have f1 : n ++ [row16 (arL Q l) (-1) (-1) 0 0] ++ N1.1 ++ N2.1 = n ++ row16 (arL Q l) (-1) (-1) 0 0 :: (N1.1 ++ N2.1) := by simp
      rw [f1]
      have q5 : (0 : Int) ≤ (n.length : Int) ∧ (n.length : Int) < ((n ++ row16 (arL Q l) (-1) (-1) 0 0 :: (N1.1 ++ N2.1)).length : Int) := by simp only [List.length_append, List.length_cons]; omega
      have q6 : ∀ r : List Ct, (0 : Int) ≤ (n.length : Int) ∧ (n.length : Int) < ((n ++ r :: (N1.1 ++ N2.1)).length : Int) := fun r => by simp only [List.length_append, List.length_cons]; omega
      simp only [get_mid, set_mid, upd_left, upd_right, cond_dec (q6 _)]
    · rw [k3]; simp only [List.append_assoc]
theorem node_ok : ∀ k, NodeOk (tnoAt k).i k := by
  intro k
  induction k with
  | zero => intro n o Q m A l B h h0 hk; omega
  | succ k ih =>
    intro n o Q m A l B h h0 hk hA hn hr hm
    obtain ⟨o', h1, h2⟩ := node_step ih h h0 hk hA hn hr hm
    refine ⟨?_, o', ?_, h2⟩
    · show (@tno_res (tnoAt k).i n o Q m _ _).isSome = true
      rw [h1]; rfl
    · show tno_sel ((@tno_res (tnoAt k).i n o Q m _ _).getD default) = _
      rw [h1]; rfl
end Go.Proofs.Ytpfaejbdbdjhhaa
