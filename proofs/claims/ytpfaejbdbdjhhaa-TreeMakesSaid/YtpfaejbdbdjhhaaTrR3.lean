/- Trees: the document's nodes, in plain numbers. No condition. -/
import Derived.Test.YtpfaejbdbdjhhaaTrR2
import Derived.Test.YtpfaejbdbdjhhaaTrP3
import Derived.Test.YtpfaejbdbdjhhaaEngTrD
set_option linter.unusedVariables false
set_option linter.unusedSimpArgs false
namespace Go.Proofs.Ytpfaejbdbdjhhaa
open Go.RowKit

/-- What is known of a call of a node. -/
def RNodeOk (I : RnoIn) (k : Nat) : Prop := ∀ (n o Q r : List (List Ct)) (l : List Int), col r = l → 0 < l.length → l.length ≤ k → o.length + l.length ≤ 1000 → n.length + 2 * l.length ≤ 10000 → (∀ i ∈ l, 0 ≤ i ∧ i < Q.length) →
  I.p n o Q r = true ∧ ∃ o', I.v n o Q r = (n ++ (nodesL Q k n.length o.length l).1, o') ∧ col o' = col o ++ (nodesL Q k n.length o.length l).2
def MNodeOk (I : RnmIn) (k : Nat) : Prop := ∀ (n Q r : List (List Ct)) (l : List Int), col r = l → 0 < l.length → l.length ≤ k → l.length ≤ 130 → n.length + 2 * l.length ≤ 10000 → (∀ i ∈ l, 0 ≤ i ∧ i < Q.length) →
  I.p n Q r = true ∧ ∃ o', I.v n Q r = (n ++ (nodesL Q k n.length 0 l).1, o') ∧ col o' = (nodesL Q k n.length 0 l).2
theorem rnode_step {I : RnoIn} {k : Nat} (ih : RNodeOk I k) {n o Q r : List (List Ct)} {l : List Int} (h : col r = l) (h0 : 0 < l.length) (hk : l.length ≤ k + 1) (hA : o.length + l.length ≤ 1000) (hn : n.length + 2 * l.length ≤ 10000) (hr : ∀ i ∈ l, 0 ≤ i ∧ i < Q.length) :
    ∃ o', @rno_res I n o Q r = some (n ++ (nodesL Q (k + 1) n.length o.length l).1, o') ∧ col o' = col o ++ (nodesL Q (k + 1) n.length o.length l).2 := by
  have hl : l.length ≤ 1000 := by omega
  have hlen : r.length = l.length := by rw [← h, col_length]
  have ta := rbt_is (Q := Q) h h0 hl hr
  have va : rbt_v Q r = arL Q l := by unfold rbt_v; rw [ta]; rfl
  have hRR : [[Ct.i (rbt_v Q r).1, Ct.i (rbt_v Q r).2.1, Ct.i (rbt_v Q r).2.2.1, Ct.i (rbt_v Q r).2.2.2.1, Ct.i (rbt_v Q r).2.2.2.2.1, Ct.i (rbt_v Q r).2.2.2.2.2.1, Ct.i (rbt_v Q r).2.2.2.2.2.2.1, Ct.i (rbt_v Q r).2.2.2.2.2.2.2.1, Ct.i (rbt_v Q r).2.2.2.2.2.2.2.2.1, Ct.i (rbt_v Q r).2.2.2.2.2.2.2.2.2.1, Ct.i (rbt_v Q r).2.2.2.2.2.2.2.2.2.2.1, Ct.i (rbt_v Q r).2.2.2.2.2.2.2.2.2.2.2, Ct.i (Int.negSucc 0), Ct.i (Int.negSucc 0), Ct.i (0 : Int), Ct.i (0 : Int)]] = [row16 (arL Q l) (-1) (-1) 0 0] := by rw [va]; rfl
  have q2 : n.length + (0 + 1) ≤ 9223372036854775807 ∧ (n.length + (0 + 1)) * 128 ≤ 140737488355328 := by omega
  unfold rno_res
  rw [hRR]
  simp only [Int.toNat_natCast, ta, hlen, Option.isSome_some, cond_true, List.length_cons, List.length_nil, cond_dec q2]
  unfold nodesL
  by_cases h4 : l.length ≤ 4
  · have h4' : (l.length : Int) ≤ 4 := by omega
    have q4 : ∀ r : List Ct, (0 : Int) ≤ (n.length : Int) ∧ (n.length : Int) < ((n ++ [r]).length : Int) := fun r => by simp only [List.length_append, List.length_cons, List.length_nil]; omega
    have q5 : o.length + l.length ≤ 9223372036854775807 ∧ (o.length + l.length) * 8 ≤ 140737488355328 := by omega
    refine ⟨o ++ r, ?_, ?_⟩
    · rw [if_pos h4]
      simp only [cond_dec h4', cond_dec (q4 _), get_mid, set_mid, upd_first, upd_count, cond_dec q5]
    · rw [if_pos h4, col_app, h]
  · have h4' : ¬ (l.length : Int) ≤ 4 := by omega
    rw [if_neg h4]
    simp only [cond_not h4']
    obtain ⟨a, c, t1, ca, cc⟩ := rsp_is h (by omega) hl hr
    have vs : rsp_v Q r = (a, c) := by unfold rsp_v; rw [t1]; rfl
    obtain ⟨p1, p2⟩ := split_pos Q (l := l) (by omega)
    have hs := split_len Q l
    have hmem : ∀ i, i ∈ (splitL Q l).1 ∨ i ∈ (splitL Q l).2 → i ∈ l := fun i hi => (split_perm Q l).mem_iff.1 (List.mem_append.2 hi)
    generalize (splitL Q l).1 = x at *
    generalize (splitL Q l).2 = y at *
    obtain ⟨g1, o2, g2, g3⟩ := ih (n ++ [row16 (arL Q l) (-1) (-1) 0 0]) o Q a x ca p1 (by omega) (by omega) (by simp only [List.length_append, List.length_cons, List.length_nil]; omega) (fun i hi => hr i (hmem i (.inl hi)))
    obtain ⟨n1, n2, n3⟩ := nodes_perm Q k (n ++ [row16 (arL Q l) (-1) (-1) 0 0]).length o.length x p1 (by omega)
    have ll : (n ++ [row16 (arL Q l) (-1) (-1) 0 0]).length = n.length + 1 := by simp
    rw [ll] at g2 g3 n1 n2 n3
    generalize hN : nodesL Q k (n.length + 1) o.length x = N1 at *
    have hN1 := n1.length_eq
    have o2l : o2.length = o.length + x.length := by rw [← col_length, g3, List.length_append, col_length, hN1]
    obtain ⟨k1, o3, k2, k3⟩ := ih ((n ++ [row16 (arL Q l) (-1) (-1) 0 0]) ++ N1.1) o2 Q c y cc p2 (by omega) (by omega) (by rw [List.length_append, ll]; omega) (fun i hi => hr i (hmem i (.inr hi)))
    have ll2 : ((n ++ [row16 (arL Q l) (-1) (-1) 0 0]) ++ N1.1).length = n.length + 1 + N1.1.length := by rw [List.length_append, ll]
    rw [o2l, ll2] at k2 k3
    generalize hN' : nodesL Q k (n.length + 1 + N1.1.length) (o.length + x.length) y = N2 at *
    refine ⟨o3, ?_, ?_⟩
    · simp only [t1, vs, g1, g2, k1, k2, Option.isSome_some, cond_true]
      have f1 : n ++ [row16 (arL Q l) (-1) (-1) 0 0] ++ N1.1 ++ N2.1 = n ++ row16 (arL Q l) (-1) (-1) 0 0 :: (N1.1 ++ N2.1) := by simp
      rw [f1]
      have q6 : ∀ r : List Ct, (0 : Int) ≤ (n.length : Int) ∧ (n.length : Int) < ((n ++ r :: (N1.1 ++ N2.1)).length : Int) := fun r => by simp only [List.length_append, List.length_cons]; omega
      simp only [ll, ll2, get_mid, set_mid, upd_left, upd_right, cond_dec (q6 _)]
    · rw [k3, g3]; simp only [List.append_assoc]
theorem rnode_ok : ∀ k, RNodeOk (rnoAt k).i k := by
  intro k
  induction k with
  | zero => intro n o Q r l h h0 hk; omega
  | succ k ih =>
    intro n o Q r l h h0 hk hA hn hr
    obtain ⟨o', h1, h2⟩ := rnode_step ih h h0 hk hA hn hr
    refine ⟨?_, o', ?_, h2⟩
    · show (@rno_res (rnoAt k).i n o Q r).isSome = true
      rw [h1]; rfl
    · show (@rno_res (rnoAt k).i n o Q r).getD default = _
      rw [h1]; rfl
theorem mnode_step {I : RnmIn} {k : Nat} (ih : MNodeOk I k) (ihR : RNodeOk (rnoAt 140).i 140) (hk140 : k ≤ 140) {n Q r : List (List Ct)} {l : List Int} (h : col r = l) (h0 : 0 < l.length) (hk : l.length ≤ k + 1) (hA : l.length ≤ 130) (hn : n.length + 2 * l.length ≤ 10000) (hr : ∀ i ∈ l, 0 ≤ i ∧ i < Q.length) :
    ∃ o', @rnm_res I n Q r = some (n ++ (nodesL Q (k + 1) n.length 0 l).1, o') ∧ col o' = (nodesL Q (k + 1) n.length 0 l).2 := by
  have hl : l.length ≤ 1000 := by omega
  have hlen : r.length = l.length := by rw [← h, col_length]
  have ta := rbt_is (Q := Q) h h0 hl hr
  have va : rbt_v Q r = arL Q l := by unfold rbt_v; rw [ta]; rfl
  have hRR : [[Ct.i (rbt_v Q r).1, Ct.i (rbt_v Q r).2.1, Ct.i (rbt_v Q r).2.2.1, Ct.i (rbt_v Q r).2.2.2.1, Ct.i (rbt_v Q r).2.2.2.2.1, Ct.i (rbt_v Q r).2.2.2.2.2.1, Ct.i (rbt_v Q r).2.2.2.2.2.2.1, Ct.i (rbt_v Q r).2.2.2.2.2.2.2.1, Ct.i (rbt_v Q r).2.2.2.2.2.2.2.2.1, Ct.i (rbt_v Q r).2.2.2.2.2.2.2.2.2.1, Ct.i (rbt_v Q r).2.2.2.2.2.2.2.2.2.2.1, Ct.i (rbt_v Q r).2.2.2.2.2.2.2.2.2.2.2, Ct.i (Int.negSucc 0), Ct.i (Int.negSucc 0), Ct.i (0 : Int), Ct.i (0 : Int)]] = [row16 (arL Q l) (-1) (-1) 0 0] := by rw [va]; rfl
  have q2 : n.length + (0 + 1) ≤ 9223372036854775807 ∧ (n.length + (0 + 1)) * 128 ≤ 140737488355328 := by omega
  unfold rnm_res rnm_c37168083
  rw [hRR]
  simp only [Int.toNat_natCast, ta, hlen, Option.isSome_some, cond_true, List.length_cons, List.length_nil, cond_dec q2]
  unfold nodesL
  by_cases h4 : l.length ≤ 4
  · have h4' : (l.length : Int) ≤ 4 := by omega
    have q4 : ∀ r : List Ct, (0 : Int) ≤ (n.length : Int) ∧ (n.length : Int) < ((n ++ [r]).length : Int) := fun r => by simp only [List.length_append, List.length_cons, List.length_nil]; omega
    have q5 : 0 + l.length ≤ 9223372036854775807 ∧ (0 + l.length) * 8 ≤ 140737488355328 := by omega
    refine ⟨[] ++ r, ?_, ?_⟩
    · rw [if_pos h4]
      simp only [cond_dec h4', cond_dec (q4 _), get_mid, set_mid, upd_first, upd_count, cond_dec q5, List.nil_append, Int.natCast_zero]
    · rw [if_pos h4]; exact h
  · have h4' : ¬ (l.length : Int) ≤ 4 := by omega
    rw [if_neg h4]
    simp only [cond_not h4']
    obtain ⟨a, c, t1, ca, cc⟩ := rsp_is h (by omega) hl hr
    have vs : rsp_v Q r = (a, c) := by unfold rsp_v; rw [t1]; rfl
    obtain ⟨p1, p2⟩ := split_pos Q (l := l) (by omega)
    have hs := split_len Q l
    have hmem : ∀ i, i ∈ (splitL Q l).1 ∨ i ∈ (splitL Q l).2 → i ∈ l := fun i hi => (split_perm Q l).mem_iff.1 (List.mem_append.2 hi)
    generalize (splitL Q l).1 = x at *
    generalize (splitL Q l).2 = y at *
    obtain ⟨g1, o2, g2, g3⟩ := ih (n ++ [row16 (arL Q l) (-1) (-1) 0 0]) Q a x ca p1 (by omega) (by omega) (by simp only [List.length_append, List.length_cons, List.length_nil]; omega) (fun i hi => hr i (hmem i (.inl hi)))
    obtain ⟨n1, n2, n3⟩ := nodes_perm Q k (n ++ [row16 (arL Q l) (-1) (-1) 0 0]).length 0 x p1 (by omega)
    have ll : (n ++ [row16 (arL Q l) (-1) (-1) 0 0]).length = n.length + 1 := by simp
    rw [ll] at g2 g3 n1 n2 n3
    generalize hN : nodesL Q k (n.length + 1) 0 x = N1 at *
    have hN1 := n1.length_eq
    have o2l : o2.length = 0 + x.length := by rw [← col_length, g3, hN1]; omega
    obtain ⟨k1, o3, k2, k3⟩ := ihR ((n ++ [row16 (arL Q l) (-1) (-1) 0 0]) ++ N1.1) o2 Q c y cc p2 (by omega) (by omega) (by rw [List.length_append, ll]; omega) (fun i hi => hr i (hmem i (.inr hi)))
    have ll2 : ((n ++ [row16 (arL Q l) (-1) (-1) 0 0]) ++ N1.1).length = n.length + 1 + N1.1.length := by rw [List.length_append, ll]
    rw [o2l, ll2] at k2 k3
    rw [nodes_fuel Q 140 k _ _ y p2 (by omega) (by omega)] at k2 k3
    generalize hN' : nodesL Q k (n.length + 1 + N1.1.length) (0 + x.length) y = N2 at *
    have K1 : rnd_p ((n ++ [row16 (arL Q l) (-1) (-1) 0 0]) ++ N1.1) o2 Q c = true := k1
    have K2 : rnd_v ((n ++ [row16 (arL Q l) (-1) (-1) 0 0]) ++ N1.1) o2 Q c = _ := k2
    refine ⟨o3, ?_, ?_⟩
    · simp only [t1, vs, g1, g2, K1, K2, Option.isSome_some, cond_true]
      have f1 : n ++ [row16 (arL Q l) (-1) (-1) 0 0] ++ N1.1 ++ N2.1 = n ++ row16 (arL Q l) (-1) (-1) 0 0 :: (N1.1 ++ N2.1) := by simp
      rw [f1]
      have q6 : ∀ r : List Ct, (0 : Int) ≤ (n.length : Int) ∧ (n.length : Int) < ((n ++ r :: (N1.1 ++ N2.1)).length : Int) := fun r => by simp only [List.length_append, List.length_cons]; omega
      simp only [ll, ll2, get_mid, set_mid, upd_left, upd_right, cond_dec (q6 _)]
    · rw [k3, g3]
theorem mnode_ok : ∀ k, k ≤ 140 → MNodeOk (rnmAt k).i k := by
  intro k
  induction k with
  | zero => intro _ n Q r l h h0 hk; omega
  | succ k ih =>
    intro hk140 n Q r l h h0 hk hA hn hr
    obtain ⟨o', h1, h2⟩ := mnode_step (ih (by omega)) (rnode_ok 140) (by omega) h h0 hk hA hn hr
    refine ⟨?_, o', ?_, h2⟩
    · show (@rnm_res (rnmAt k).i n Q r).isSome = true
      rw [h1]; rfl
    · show (@rnm_res (rnmAt k).i n Q r).getD default = _
      rw [h1]; rfl
theorem rnn_is (ih : MNodeOk (rnmAt 140).i 140) (ihR : RNodeOk (rnoAt 140).i 140) {Q r : List (List Ct)} {l : List Int} (h : col r = l) (h0 : 0 < l.length) (hA : l.length ≤ 130) (hr : ∀ i ∈ l, 0 ≤ i ∧ i < Q.length) :
    ∃ o', rnn_res Q r = some ((nodesL Q 141 0 0 l).1, o') ∧ col o' = (nodesL Q 141 0 0 l).2 := by
  have hl : l.length ≤ 1000 := by omega
  have hlen : r.length = l.length := by rw [← h, col_length]
  have ta := rbt_is (Q := Q) h h0 hl hr
  have va : rbt_v Q r = arL Q l := by unfold rbt_v; rw [ta]; rfl
  have hRR : [[Ct.i (rbt_v Q r).1, Ct.i (rbt_v Q r).2.1, Ct.i (rbt_v Q r).2.2.1, Ct.i (rbt_v Q r).2.2.2.1, Ct.i (rbt_v Q r).2.2.2.2.1, Ct.i (rbt_v Q r).2.2.2.2.2.1, Ct.i (rbt_v Q r).2.2.2.2.2.2.1, Ct.i (rbt_v Q r).2.2.2.2.2.2.2.1, Ct.i (rbt_v Q r).2.2.2.2.2.2.2.2.1, Ct.i (rbt_v Q r).2.2.2.2.2.2.2.2.2.1, Ct.i (rbt_v Q r).2.2.2.2.2.2.2.2.2.2.1, Ct.i (rbt_v Q r).2.2.2.2.2.2.2.2.2.2.2, Ct.i (Int.negSucc 0), Ct.i (Int.negSucc 0), Ct.i (0 : Int), Ct.i (0 : Int)]] = [row16 (arL Q l) (-1) (-1) 0 0] := by rw [va]; rfl
  have q2 : 0 + (0 + 1) ≤ 9223372036854775807 ∧ (0 + (0 + 1)) * 128 ≤ 140737488355328 := by omega
  unfold rnn_res
  rw [hRR]
  have z0 : Int.toNat (0 : Int) = 0 := rfl
  simp only [Int.toNat_natCast, ta, hlen, Option.isSome_some, cond_true, List.length_cons, List.length_nil, cond_dec q2, z0, List.nil_append]
  have s1 : ∀ (r r' : List Ct) (rest : List (List Ct)), (r :: rest).set 0 r' = r' :: rest := fun _ _ _ => rfl
  have s2 : ∀ (r : List Ct) (rest : List (List Ct)), (r :: rest).getD 0 [] = r := fun _ _ => rfl
  unfold nodesL
  by_cases h4 : l.length ≤ 4
  · have h4' : (l.length : Int) ≤ 4 := by omega
    have q7 : (0 : Int) ≤ (0 : Int) ∧ (0 : Int) < ((0 + 1 : Nat) : Int) := by omega
    have q5 : 0 + l.length ≤ 9223372036854775807 ∧ (0 + l.length) * 8 ≤ 140737488355328 := by omega
    refine ⟨[] ++ r, ?_, ?_⟩
    · rw [if_pos h4]
      simp only [cond_dec h4', s1, s2, List.length_cons, List.length_nil, cond_dec q7, upd_first, upd_count, cond_dec q5, List.nil_append, Int.natCast_zero]
    · rw [if_pos h4]; exact h
  · have h4' : ¬ (l.length : Int) ≤ 4 := by omega
    rw [if_neg h4]
    simp only [cond_not h4']
    obtain ⟨a, c, t1, ca, cc⟩ := rsp_is h (by omega) hl hr
    have vs : rsp_v Q r = (a, c) := by unfold rsp_v; rw [t1]; rfl
    obtain ⟨p1, p2⟩ := split_pos Q (l := l) (by omega)
    have hs := split_len Q l
    have hmem : ∀ i, i ∈ (splitL Q l).1 ∨ i ∈ (splitL Q l).2 → i ∈ l := fun i hi => (split_perm Q l).mem_iff.1 (List.mem_append.2 hi)
    generalize (splitL Q l).1 = x at *
    generalize (splitL Q l).2 = y at *
    obtain ⟨g1, o2, g2, g3⟩ := ih ([row16 (arL Q l) (-1) (-1) 0 0]) Q a x ca p1 (by omega) (by omega) (by simp only [List.length_cons, List.length_nil]; omega) (fun i hi => hr i (hmem i (.inl hi)))
    obtain ⟨n1, n2, n3⟩ := nodes_perm Q 140 ([row16 (arL Q l) (-1) (-1) 0 0]).length 0 x p1 (by omega)
    have ll : ([row16 (arL Q l) (-1) (-1) 0 0]).length = 0 + 1 := by simp
    rw [ll] at g2 g3 n1 n2 n3
    generalize hN : nodesL Q 140 (0 + 1) 0 x = N1 at *
    have hN1 := n1.length_eq
    have o2l : o2.length = 0 + x.length := by rw [← col_length, g3, hN1]; omega
    obtain ⟨k1, o3, k2, k3⟩ := ihR (([row16 (arL Q l) (-1) (-1) 0 0]) ++ N1.1) o2 Q c y cc p2 (by omega) (by omega) (by rw [List.length_append, ll]; omega) (fun i hi => hr i (hmem i (.inr hi)))
    have ll2 : (([row16 (arL Q l) (-1) (-1) 0 0]) ++ N1.1).length = 0 + 1 + N1.1.length := by rw [List.length_append, ll]
    rw [o2l, ll2] at k2 k3
    generalize hN' : nodesL Q 140 (0 + 1 + N1.1.length) (0 + x.length) y = N2 at *
    have K1 : rnd_p (([row16 (arL Q l) (-1) (-1) 0 0]) ++ N1.1) o2 Q c = true := k1
    have K2 : rnd_v (([row16 (arL Q l) (-1) (-1) 0 0]) ++ N1.1) o2 Q c = _ := k2
    have G1 : rne_p ([row16 (arL Q l) (-1) (-1) 0 0]) Q a = true := g1
    have G2 : rne_v ([row16 (arL Q l) (-1) (-1) 0 0]) Q a = _ := g2
    have d1 : rnn_c77861009 Q r = ([row16 (arL Q l) (-1) (-1) 0 0] ++ N1.1, o2) := by
      unfold rnn_c77861009
      rw [hRR, vs]
      exact G2
    have d2 : rnn_c52602201 Q r = (([row16 (arL Q l) (-1) (-1) 0 0] ++ N1.1) ++ N2.1, o3) := by
      unfold rnn_c52602201
      rw [d1, vs]
      exact K2
    refine ⟨o3, ?_, ?_⟩
    · simp only [t1, vs, G1, d1, K1, d2, Option.isSome_some, cond_true]
      have q6 : ∀ (r : List Ct) (rest : List (List Ct)), (0 : Int) ≤ (0 : Int) ∧ (0 : Int) < ((r :: rest).length : Int) := fun r rest => by simp only [List.length_cons]; omega
      simp only [ll, ll2, List.cons_append, List.nil_append, s1, s2, upd_left, upd_right, cond_dec (q6 _ _)]
      rw [show (row16 (arL Q l) (-1) (-1) 0 0 :: N1.1).length = 0 + 1 + N1.1.length by rw [List.length_cons]; omega]
    · rw [k3, g3]
end Go.Proofs.Ytpfaejbdbdjhhaa
