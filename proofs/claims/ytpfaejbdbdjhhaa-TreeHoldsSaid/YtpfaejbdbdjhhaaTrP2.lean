/- Trees: the program's halves of some shapes, in plain numbers. No condition. -/
import Derived.Test.YtpfaejbdbdjhhaaTrP1
set_option linter.unusedVariables false
set_option linter.unusedSimpArgs false
namespace Go.Proofs.Ytpfaejbdbdjhhaa
open Go.RowKit

/-- Numbers, as rows. -/
def rowsI (l : List Int) : List (List Ct) := l.map fun x => [.i x]
theorem rowsI_length (l : List Int) : (rowsI l).length = l.length := by simp [rowsI]
theorem rowsI_app (a b : List Int) : rowsI (a ++ b) = rowsI a ++ rowsI b := by simp [rowsI]
theorem rowsI_one (x : Int) : [[Ct.i x]] = rowsI [x] := rfl
theorem col_rowsI (l : List Int) : col (rowsI l) = l := by
  induction l with
  | nil => rfl
  | cons x l ih => simp only [rowsI, List.map_cons] at ih ⊢; rw [col_cons, ih]; rfl
theorem take_snoc {l : List Int} {k : Nat} (hk : k < l.length) : l.take (k + 1) = l.take k ++ [l.getD k 0] := by
  rw [List.take_add_one, List.getD_eq_getElem?_getD, List.getElem?_eq_getElem hk]; rfl
/-- How the middles stand. -/
structure Mids (Q m : List (List Ct)) : Prop where
  len : m.length = Q.length
  at0 : ∀ j : Nat, j < Q.length → (rd m j 0).int = (midP (prI Q j)).1 ∧ (rd m j 1).int = (midP (prI Q j)).2.1 ∧ (rd m j 2).int = (midP (prI Q j)).2.2
theorem Mids.at {Q m : List (List Ct)} (h : Mids Q m) {x : Int} (h0 : 0 ≤ x) (h1 : x < Q.length) : (rd m x.toNat 0).int = (midP (prI Q x)).1 ∧ (rd m x.toNat 1).int = (midP (prI Q x)).2.1 ∧ (rd m x.toNat 2).int = (midP (prI Q x)).2.2 := by
  have := h.at0 x.toNat (by omega)
  rwa [Int.toNat_of_nonneg h0] at this
section
variable {o Q m : List (List Ct)} {A l B : List Int}
theorem l0_is (h : col o = A ++ l ++ B) (hl : l.length ≤ 1000) (hr : ∀ i ∈ l, 0 ≤ i ∧ i < Q.length) (hm : Mids Q m) : tsp_L0_p o m (A.length : Int) (l.length : Int) = true ∧ tsp_L0_v o m (A.length : Int) (l.length : Int) = ((l.length : Int), midR Q l) := by
  have hd : ∀ k, k < l.length → 0 ≤ l.getD k 0 ∧ l.getD k 0 < Q.length := fun k hk => hr _ (getD_mem hk)
  have hf : nfold (fun k (a : List (List Ct)) => a ++ [midRow (prI Q (l.getD k 0))]) l.length [] = midR Q l := by
    have key : ∀ n, n ≤ l.length → nfold (fun k (a : List (List Ct)) => a ++ [midRow (prI Q (l.getD k 0))]) n [] = midR Q (l.take n) := by
      intro n
      induction n with
      | zero => intro _; rfl
      | succ n ih => intro hn; simp only [nfold, ih (by omega), take_snoc (show n < l.length by omega), midR, List.map_append, List.map_cons, List.map_nil]
    have := key l.length (Nat.le_refl _)
    rwa [List.take_length] at this
  have it := iter_range (step := tsp_L0_step o m (A.length : Int) (l.length : Int)) (A := List (List Ct)) (fun k a => ((k : Int), a)) (fun k a => a.length = k) (f := fun k a => a ++ [midRow (prI Q (l.getD k 0))]) (out := fun a => ((l.length : Int), a)) (n := l.length) (m := (l.length : Int).toNat + 1) (v := ((0 : Int), [])) (a0 := [])
    rfl (by rw [Int.toNat_natCast]; omega)
    (fun k hk a ha => ⟨by
      have hx := hd k hk
      have r := rd_seg h hk
      generalize l.getD k 0 = x at hx r
      obtain ⟨m0, m1, m2⟩ := hm.at hx.1 hx.2
      have hx' : 0 ≤ x ∧ x < (m.length : Int) := by rw [hm.len]; exact hx
      have q1 : (k : Int) < (l.length : Int) := by omega
      have q2 : (0 : Int) ≤ (k : Int) ∧ (k : Int) < (l.length : Int) := ⟨by omega, q1⟩
      have q3 : a.length + (0 + 1) ≤ 9223372036854775807 ∧ (a.length + (0 + 1)) * 24 ≤ 140737488355328 := by omega
      simp only [tsp_L0_step, Int.toNat_natCast, r, m0, m1, m2, List.length_cons, List.length_nil, cond_dec q1, cond_dec q2, cond_dec hx', cond_dec q3, wrap_in (n := (k : Int) + 1) (by omega) (by omega)]
      rfl, by simp [ha]⟩)
    (fun a _ => by
      simp only [tsp_L0_step, Int.toNat_natCast]
      rw [cond_not (by omega)]) rfl
  rw [hf] at it
  exact ⟨by unfold tsp_L0_p; rw [it]; rfl, by unfold tsp_L0_v loopRes; rw [it]; rfl⟩
theorem c_is (h : col o = A ++ l ++ B) (hl : l.length ≤ 1000) (hr : ∀ i ∈ l, 0 ≤ i ∧ i < Q.length) (hm : Mids Q m) :
    tsp_c68741051 o m (A.length : Int) (l.length : Int) = highT Q l ∧ tsp_c47702503 o m (A.length : Int) (l.length : Int) = lowT Q l ∧ tsp_c6864667 o m (A.length : Int) (l.length : Int) = axT Q l ∧ tsp_c59211845 o m (A.length : Int) (l.length : Int) = at3 (lowT Q l) (axT Q l) ∧ tsp_c82364529 o m (A.length : Int) (l.length : Int) = at3 (sizeT Q l) (axT Q l) := by
  obtain ⟨_, hv⟩ := l0_is h hl hr hm
  have z0 : Int.toNat (0 : Int) = 0 := rfl
  have g1 : tsp_c68741051 o m (A.length : Int) (l.length : Int) = highT Q l := by unfold tsp_c68741051; rw [hv]; simp only [z0]; rfl
  have g2 : tsp_c47702503 o m (A.length : Int) (l.length : Int) = lowT Q l := by unfold tsp_c47702503; rw [hv]; simp only [z0]; rfl
  have g3 : tsp_c6864667 o m (A.length : Int) (l.length : Int) = axT Q l := by unfold tsp_c6864667; rw [g1, g2]; rfl
  exact ⟨g1, g2, g3, by unfold tsp_c59211845; rw [g2, g3]; rfl, by unfold tsp_c82364529; rw [g1, g2, g3]; rfl⟩
theorem bin_is (h : col o = A ++ l ++ B) (hl : l.length ≤ 1000) (hr : ∀ i ∈ l, 0 ≤ i ∧ i < Q.length) (hm : Mids Q m) {k : Nat} (hk : k < l.length) : tsp_c50832537 o m (A.length : Int) (l.length : Int) (k : Int) = binL Q l (l.getD k 0) := by
  obtain ⟨g1, g2, g3, g4, g5⟩ := c_is h hl hr hm
  have hx := hr _ (getD_mem hk)
  have r := rd_seg h hk
  obtain ⟨m0, m1, m2⟩ := hm.at hx.1 hx.2
  unfold tsp_c50832537 tsp_c43954132
  simp only [Int.toNat_natCast, r, m0, m1, m2, g3, g4, g5]
  rfl
theorem part_is (c : Int → Bool) : ∀ n, n ≤ l.length → nfold (fun k (a : List (List Ct) × List (List Ct)) => bif c (l.getD k 0) then (a.1 ++ [[Ct.i (l.getD k 0)]], a.2) else (a.1, a.2 ++ [[Ct.i (l.getD k 0)]])) n ([], []) = (rowsI ((l.take n).filter c), rowsI ((l.take n).filter fun i => !c i)) := by
  intro n
  induction n with
  | zero => intro _; rfl
  | succ n ih =>
    intro hn
    rw [nfold, ih (by omega), take_snoc (show n < l.length by omega)]
    cases hc : c (l.getD n 0) with
    | true => simp only [cond_true, List.filter_append, List.filter_cons, List.filter_nil, hc, if_true, Bool.not_true, Bool.false_eq_true, if_false, List.append_nil, rowsI_app, rowsI_one]
    | false => simp only [cond_false, List.filter_append, List.filter_cons, List.filter_nil, hc, if_true, Bool.not_false, Bool.false_eq_true, if_false, List.append_nil, rowsI_app, rowsI_one]
theorem l4a_is (h : col o = A ++ l ++ B) (hl : l.length ≤ 1000) (hr : ∀ i ∈ l, 0 ≤ i ∧ i < Q.length) (hm : Mids Q m) (cut : Int) : tsp_L4a_p o m (A.length : Int) (l.length : Int) cut = true ∧ tsp_L4a_v o m (A.length : Int) (l.length : Int) cut = ((l.length : Int), rowsI (leftL Q l cut), rowsI (rightL Q l cut)) := by
  have hd : ∀ k, k < l.length → 0 ≤ l.getD k 0 ∧ l.getD k 0 < Q.length := fun k hk => hr _ (getD_mem hk)
  have hf := part_is (l := l) (fun i => decide (binL Q l i < cut)) l.length (Nat.le_refl _)
  rw [List.take_length] at hf
  have it := iter_range (step := tsp_L4a_step o m (A.length : Int) (l.length : Int) cut) (A := List (List Ct) × List (List Ct)) (fun k a => ((k : Int), a.1, a.2)) (fun k a => a.1.length ≤ k ∧ a.2.length ≤ k) (f := fun k a => bif decide (binL Q l (l.getD k 0) < cut) then (a.1 ++ [[Ct.i (l.getD k 0)]], a.2) else (a.1, a.2 ++ [[Ct.i (l.getD k 0)]])) (out := fun a => ((l.length : Int), a.1, a.2)) (n := l.length) (m := (l.length : Int).toNat + 1) (v := ((0 : Int), [], [])) (a0 := ([], []))
    rfl (by rw [Int.toNat_natCast]; omega)
    (fun k hk a ha => ⟨by
      have hx := hd k hk
      have r := rd_seg h hk
      have hb := bin_is h hl hr hm hk
      generalize l.getD k 0 = x at hx r hb
      have hx' : 0 ≤ x ∧ x < (m.length : Int) := by rw [hm.len]; exact hx
      have q1 : (k : Int) < (l.length : Int) := by omega
      have q2 : (0 : Int) ≤ (k : Int) ∧ (k : Int) < (l.length : Int) := ⟨by omega, q1⟩
      have q3 : a.1.length + (0 + 1) ≤ 9223372036854775807 ∧ (a.1.length + (0 + 1)) * 8 ≤ 140737488355328 := by omega
      have q4 : a.2.length + (0 + 1) ≤ 9223372036854775807 ∧ (a.2.length + (0 + 1)) * 8 ≤ 140737488355328 := by omega
      simp only [tsp_L4a_step, Int.toNat_natCast, r, hb, List.length_cons, List.length_nil, cond_dec q1, cond_dec q2, cond_dec hx', cond_dec q3, cond_dec q4, wrap_in (n := (k : Int) + 1) (by omega) (by omega)]
      cases decide (binL Q l x < cut) <;> rfl, by
      cases decide (binL Q l (l.getD k 0) < cut) <;> simp only [cond_true, cond_false, List.length_append, List.length_cons, List.length_nil] <;> omega⟩)
    (fun a _ => by
      simp only [tsp_L4a_step, Int.toNat_natCast]
      rw [cond_not (by omega)]) (by simp)
  rw [hf] at it
  exact ⟨by unfold tsp_L4a_p; rw [it]; rfl, by unfold tsp_L4a_v loopRes; rw [it]; rfl⟩
theorem l4b_is (h : col o = A ++ l ++ B) (hl : l.length ≤ 1000) (hr : ∀ i ∈ l, 0 ≤ i ∧ i < Q.length) (hm : Mids Q m) (cut : Int) : tsp_L4b_p o m (A.length : Int) (l.length : Int) cut = true ∧ tsp_L4b_v o m (A.length : Int) (l.length : Int) cut = ((l.length : Int), rowsI (leftL Q l cut), rowsI (rightL Q l cut)) := l4a_is h hl hr hm cut
end
theorem left_right (Q : List (List Ct)) (l : List Int) (cut : Int) : (leftL Q l cut ++ rightL Q l cut).Perm l := List.filter_append_perm _ l
theorem best_inv (Q : List (List Ct)) (l : List Int) : ∀ n b, nfold (stepB Q l) n none = some b → (b.1 ++ b.2.1).Perm l ∧ 0 < b.1.length ∧ 0 < b.2.1.length := by
  intro n
  induction n with
  | zero => intro b h; cases h
  | succ n ih =>
    intro b h
    simp only [nfold, stepB] at h
    split at h
    · exact ih b h
    · rename_i hc
      have hn : (leftL Q l ((n : Int) + 1) ++ rightL Q l ((n : Int) + 1)).Perm l ∧ 0 < (leftL Q l ((n : Int) + 1)).length ∧ 0 < (rightL Q l ((n : Int) + 1)).length := ⟨left_right Q l _, by omega, by omega⟩
      split at h
      · cases h; exact hn
      · rename_i b' hb
        split at h
        · cases h; exact hn
        · cases h; exact ih _ hb
theorem split_perm (Q : List (List Ct)) (l : List Int) : ((splitL Q l).1 ++ (splitL Q l).2).Perm l := by
  unfold splitL
  split
  · simp
  · split
    · simp
    · rename_i b hb; exact (best_inv Q l 7 b hb).1
theorem split_pos (Q : List (List Ct)) {l : List Int} (h : 2 ≤ l.length) : 0 < (splitL Q l).1.length ∧ 0 < (splitL Q l).2.length := by
  unfold splitL
  split
  · simp only [List.length_take, List.length_drop]; omega
  · split
    · simp only [List.length_take, List.length_drop]; omega
    · rename_i b hb; exact (best_inv Q l 7 b hb).2
theorem split_len (Q : List (List Ct)) (l : List Int) : (splitL Q l).1.length + (splitL Q l).2.length = l.length := by
  have := (split_perm Q l).length_eq
  simpa using this
section
variable {o Q m : List (List Ct)} {A l B : List Int}
theorem col_layR {r : List (List Ct)} (h : col o = A ++ l ++ B) (hr : r.length = l.length) : col (layR o A.length l.length r) = A ++ col r ++ B := by
  unfold layR
  rw [col_app, col_app]
  have e1 : col (o.take A.length) = A := by
    have : col (o.take A.length) = (col o).take A.length := by simp [col, List.map_take]
    rw [this, h, List.append_assoc, List.take_left']; rfl
  have e2 : r.take l.length = r := by rw [← hr, List.take_length]
  have e3 : col (o.drop (A.length + min l.length r.length)) = B := by
    have : col (o.drop (A.length + min l.length r.length)) = (col o).drop (A.length + min l.length r.length) := by simp [col, List.map_drop]
    rw [this, h, hr, Nat.min_self]
    exact List.drop_left' (by simp)
  rw [e1, e2, e3]
/-- Where the cuts stand. -/
def cutS (k : Nat) (st : Option (List Int × List Int × Int)) : (Int) ⊕ (Int × Int × Int × List (List Ct)) :=
  match st with
  | none => .inl ((k : Int) + 1)
  | some b => .inr ((b.1.length : Int), b.2.2, (k : Int) + 1, rowsI b.1 ++ rowsI b.2.1)
theorem l2_is (h : col o = A ++ l ++ B) (hl : l.length ≤ 1000) (hr : ∀ i ∈ l, 0 ≤ i ∧ i < Q.length) (hm : Mids Q m) : iter (tsp_L2_step o Q m (A.length : Int) (l.length : Int)) 8 (.inl 1) = some (cutS 7 (bestL Q l)) := by
  have hco : ∀ q : List Int, (∀ i ∈ q, i ∈ l) → 0 < q.length → q.length ≤ 1000 → tco_res Q (rowsI q) = some (costL Q q) := fun q hq h0 h1 => tco_is (col_rowsI q) h0 h1 fun i hi => hr i (hq i hi)
  have hLm : ∀ cut i, i ∈ leftL Q l cut → i ∈ l := fun cut i hi => (List.mem_filter.1 hi).1
  have hRm : ∀ cut i, i ∈ rightL Q l cut → i ∈ l := fun cut i hi => (List.mem_filter.1 hi).1
  have hlen : ∀ cut, (leftL Q l cut).length + (rightL Q l cut).length = l.length := fun cut => by have := (left_right Q l cut).length_eq; simpa using this
  refine iter_range (S := fun k st => cutS k st) (Inv := fun _ st => ∀ b, st = some b → 0 < b.1.length) (f := stepB Q l) (out := fun st => cutS 7 st) (n := 7) (a0 := none) rfl (by omega) (fun k hk st hi => ?_) (fun st hi => ?_) (fun b hb => by cases hb)
  · have w1 : IntKind.i64.wrap ((k : Int) + 1 + 1) = ((k + 1 : Nat) : Int) + 1 := by rw [wrap_in (by omega) (by omega)]; omega
    have q1 : (k : Int) + 1 < 8 := by omega
    have hl1 := hlen ((k : Int) + 1)
    have inv : ∀ b, stepB Q l k st = some b → 0 < b.1.length := by
      intro b hb
      unfold stepB at hb
      split at hb
      · exact hi b hb
      · rename_i hc
        split at hb
        · cases hb; exact Nat.pos_of_ne_zero fun h => hc (.inl h)
        · split at hb
          · cases hb; exact Nat.pos_of_ne_zero fun h => hc (.inl h)
          · cases hb; exact hi _ rfl
    refine ⟨?_, inv⟩
    by_cases e1 : (leftL Q l ((k : Int) + 1)).length = 0
    · have hs : stepB Q l k st = st := by unfold stepB; rw [if_pos (.inl e1)]
      rw [hs]
      cases st with
      | none =>
        obtain ⟨p, v⟩ := l4a_is h hl hr hm ((k : Int) + 1)
        simp only [cutS, tsp_L2_step, cond_dec q1, p, v, rowsI_length, e1, cond_true, w1, Int.natCast_zero, beq_self_eq_true]
      | some b =>
        obtain ⟨p, v⟩ := l4b_is h hl hr hm ((k : Int) + 1)
        simp only [cutS, tsp_L2_step, cond_dec q1, p, v, rowsI_length, e1, cond_true, w1, Int.natCast_zero, beq_self_eq_true]
    · have b1 : (((leftL Q l ((k : Int) + 1)).length : Int) == (0 : Int)) = false := by rw [beq_eq_false_iff_ne]; omega
      by_cases e2 : (rightL Q l ((k : Int) + 1)).length = 0
      · have hs : stepB Q l k st = st := by unfold stepB; rw [if_pos (.inr e2)]
        rw [hs]
        cases st with
        | none =>
          obtain ⟨p, v⟩ := l4a_is h hl hr hm ((k : Int) + 1)
          simp only [cutS, tsp_L2_step, cond_dec q1, p, v, rowsI_length, b1, e2, cond_true, cond_false, w1, Int.natCast_zero, beq_self_eq_true]
        | some b =>
          obtain ⟨p, v⟩ := l4b_is h hl hr hm ((k : Int) + 1)
          simp only [cutS, tsp_L2_step, cond_dec q1, p, v, rowsI_length, b1, e2, cond_true, cond_false, w1, Int.natCast_zero, beq_self_eq_true]
      · have b2 : (((rightL Q l ((k : Int) + 1)).length : Int) == (0 : Int)) = false := by rw [beq_eq_false_iff_ne]; omega
        have c1 := hco _ (hLm ((k : Int) + 1)) (by omega) (by omega)
        have c2 := hco _ (hRm ((k : Int) + 1)) (by omega) (by omega)
        have v1 : tco_v Q (rowsI (leftL Q l ((k : Int) + 1))) = costL Q (leftL Q l ((k : Int) + 1)) := by unfold tco_v; rw [c1]; rfl
        have v2 : tco_v Q (rowsI (rightL Q l ((k : Int) + 1))) = costL Q (rightL Q l ((k : Int) + 1)) := by unfold tco_v; rw [c2]; rfl
        have sp : (leftL Q l ((k : Int) + 1)).length + (rightL Q l ((k : Int) + 1)).length ≤ 9223372036854775807 ∧ ((leftL Q l ((k : Int) + 1)).length + (rightL Q l ((k : Int) + 1)).length) * 8 ≤ 140737488355328 := by omega
        have hne : ¬ ((leftL Q l ((k : Int) + 1)).length = 0 ∨ (rightL Q l ((k : Int) + 1)).length = 0) := by omega
        cases st with
        | none =>
          obtain ⟨p, v⟩ := l4a_is h hl hr hm ((k : Int) + 1)
          have d1 : tsp_c66863319 o Q m (A.length : Int) (l.length : Int) ((k : Int) + 1) = costL Q (leftL Q l ((k : Int) + 1)) := by unfold tsp_c66863319; rw [v]; exact v1
          have d2 : tsp_c32760436 o Q m (A.length : Int) (l.length : Int) ((k : Int) + 1) = costL Q (rightL Q l ((k : Int) + 1)) := by unfold tsp_c32760436; rw [v]; exact v2
          have hs : stepB Q l k none = some (leftL Q l ((k : Int) + 1), rightL Q l ((k : Int) + 1), IntKind.i64.wrap (costL Q (leftL Q l ((k : Int) + 1)) + costL Q (rightL Q l ((k : Int) + 1)))) := by unfold stepB; rw [if_neg hne]
          rw [hs]
          simp only [cutS, tsp_L2_step, cond_dec q1, p, v, rowsI_length, b1, b2, c1, c2, d1, d2, cond_dec sp, Option.isSome_some, cond_true, cond_false, w1]
        | some b =>
          obtain ⟨p, v⟩ := l4b_is h hl hr hm ((k : Int) + 1)
          have d1 : tsp_c48740355 o Q m (A.length : Int) (l.length : Int) ((k : Int) + 1) = costL Q (leftL Q l ((k : Int) + 1)) := by unfold tsp_c48740355; rw [v]; exact v1
          have d2 : tsp_c71911858 o Q m (A.length : Int) (l.length : Int) ((k : Int) + 1) = costL Q (rightL Q l ((k : Int) + 1)) := by unfold tsp_c71911858; rw [v]; exact v2
          have hb0 : 0 < (rowsI b.1 ++ rowsI b.2.1).length := by have := hi b rfl; simp only [List.length_append, rowsI_length]; omega
          by_cases e3 : IntKind.i64.wrap (costL Q (leftL Q l ((k : Int) + 1)) + costL Q (rightL Q l ((k : Int) + 1))) < b.2.2
          · have hs : stepB Q l k (some b) = some (leftL Q l ((k : Int) + 1), rightL Q l ((k : Int) + 1), IntKind.i64.wrap (costL Q (leftL Q l ((k : Int) + 1)) + costL Q (rightL Q l ((k : Int) + 1)))) := by unfold stepB; rw [if_neg hne]; exact if_pos e3
            rw [hs]
            simp only [cutS, tsp_L2_step, cond_dec q1, p, v, rowsI_length, b1, b2, c1, c2, d1, d2, cond_dec sp, cond_dec hb0, cond_dec e3, Option.isSome_some, cond_true, cond_false, w1]
          · have hs : stepB Q l k (some b) = some b := by unfold stepB; rw [if_neg hne]; exact if_neg e3
            rw [hs]
            simp only [cutS, tsp_L2_step, cond_dec q1, p, v, rowsI_length, b1, b2, c1, c2, d1, d2, cond_dec hb0, cond_not e3, Option.isSome_some, cond_true, cond_false, w1]
  · have q1 : ¬ ((7 : Nat) : Int) + 1 < 8 := by omega
    cases st with
    | none => simp only [cutS, tsp_L2_step, cond_not q1]
    | some b => simp only [cutS, tsp_L2_step, cond_not q1]
/-- The program's split. -/
theorem tsp_is (h : col o = A ++ l ++ B) (h0 : 2 ≤ l.length) (hl : l.length ≤ 1000) (hr : ∀ i ∈ l, 0 ≤ i ∧ i < Q.length) (hm : Mids Q m) :
    ∃ o', tsp_res o Q m (A.length : Int) (l.length : Int) = some (((splitL Q l).1.length : Int), o') ∧ col o' = A ++ ((splitL Q l).1 ++ (splitL Q l).2) ++ B := by
  obtain ⟨p0, v0⟩ := l0_is h hl hr hm
  obtain ⟨g1, g2, g3, g4, g5⟩ := c_is h hl hr hm
  have i2 := l2_is h hl hr hm
  have p2 : tsp_L2_p o Q m (A.length : Int) (l.length : Int) = true := by unfold tsp_L2_p; rw [i2]; rfl
  have v2 : tsp_L2_v o Q m (A.length : Int) (l.length : Int) = cutS 7 (bestL Q l) := by unfold tsp_L2_v; rw [i2]; rfl
  have ml : (midR Q l).length = l.length := by simp [midR]
  have q1 : (0 : Int) ≤ (0 : Int) ∧ (0 : Int) < (l.length : Int) := ⟨by omega, by omega⟩
  have q2 : (0 : Int) ≤ (1 : Int) ∧ (1 : Int) ≤ (l.length : Int) ∧ (l.length : Int) ≤ (l.length : Int) := ⟨by omega, by omega, by omega⟩
  have q3 : (partOf (midR Q l) (1 : Int) (l.length : Int)).length ≤ 9223372036854775807 := by
    have := rest_length (l := midR Q l)
    rw [ml] at this
    rw [this]; omega
  have half : IntKind.i64.wrap ((l.length : Int).tdiv 2) = ((l.take (l.length / 2)).length : Int) := by
    have e : (l.length : Int).tdiv 2 = ((l.length / 2 : Nat) : Int) := by rw [Int.tdiv_eq_ediv_of_nonneg (by omega)]; omega
    rw [e, wrap_in (by omega) (by omega), List.length_take]; omega
  have q4 : 0 < l.length := by omega
  simp only [tsp_res, p0, v0, ml, Int.toNat_natCast, cond_dec q1, cond_dec q2, cond_dec q3, g5, p2, v2, cond_true, half]
  unfold splitL
  by_cases e1 : at3 (sizeT Q l) (axT Q l) ≤ 0
  · refine ⟨o, ?_, ?_⟩
    · rw [cond_dec e1, if_pos e1]
    · rw [if_pos e1, h]; simp
  · rw [cond_not e1, if_neg e1]
    cases hb : bestL Q l with
    | none =>
      refine ⟨o, ?_, ?_⟩
      · simp only [cutS, isL, cond_true]
      · rw [h]; simp
    | some b =>
      have hinv := best_inv Q l 7 b hb
      have hlen := hinv.1.length_eq
      rw [List.length_append] at hlen
      have hb0 : 0 < (rowsI b.1 ++ rowsI b.2.1).length := by simp only [List.length_append, rowsI_length]; omega
      refine ⟨layR o A.length l.length (rowsI b.1 ++ rowsI b.2.1), ?_, ?_⟩
      · simp only [cutS, isL, getR, cond_false, cond_dec q4]
        exact cond_dec hb0
      · rw [col_layR h (by simp only [List.length_append, rowsI_length]; omega), col_app, col_rowsI, col_rowsI]
end
end Go.Proofs.Ytpfaejbdbdjhhaa
