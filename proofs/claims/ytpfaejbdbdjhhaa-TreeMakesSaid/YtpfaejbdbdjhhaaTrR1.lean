/- Trees: the document's halves of some shapes, in plain numbers. No condition. -/
import Derived.Test.YtpfaejbdbdjhhaaTrP2
import Derived.Test.YtpfaejbdbdjhhaaEngTrA
set_option linter.unusedVariables false
set_option linter.unusedSimpArgs false
namespace Go.Proofs.Ytpfaejbdbdjhhaa
open Go.RowKit

/-- Pairs, as rows. -/
def pairR (Q : List (List Ct)) (l : List Int) : List (List Ct) := l.map fun i => [.i (rd Q i.toNat 0).int, .i (rd Q i.toNat 1).int, .i (rd Q i.toNat 2).int, .i (rd Q i.toNat 3).int, .i (rd Q i.toNat 4).int, .i (rd Q i.toNat 5).int, .i (rd Q i.toNat 6).int, .i (rd Q i.toNat 7).int, .i (rd Q i.toNat 8).int, .i (rd Q i.toNat 9).int, .i (rd Q i.toNat 10).int, .i (rd Q i.toNat 11).int]
theorem rd_map {F : Int → List Ct} {l : List Int} {k j : Nat} (hk : k < l.length) : rd (l.map F) k j = (F (l.getD k 0)).getD j (.i 0) := by
  simp [rd, List.getD_eq_getElem?_getD, hk]
theorem snoc_map {F : Int → List Ct} {l : List Int} : ∀ n, n ≤ l.length → nfold (fun k (a : List (List Ct)) => a ++ [F (l.getD k 0)]) n [] = (l.take n).map F := by
  intro n
  induction n with
  | zero => intro _; rfl
  | succ n ih => intro hn; simp only [nfold, ih (by omega), take_snoc (show n < l.length by omega), List.map_append, List.map_cons, List.map_nil]
section
variable {r Q : List (List Ct)} {l : List Int}
theorem rbt_is (h : col r = l) (h0 : 0 < l.length) (hl : l.length ≤ 1000) (hr : ∀ i ∈ l, 0 ≤ i ∧ i < Q.length) : rbt_res Q r = some (arL Q l) := by
  have hlen : r.length = l.length := by rw [← h, col_length]
  have hd : ∀ k, k < l.length → 0 ≤ l.getD k 0 ∧ l.getD k 0 < Q.length := fun k hk => hr _ (getD_mem hk)
  have hrd : ∀ k, (rd r k 0).int = l.getD k 0 := fun k => by rw [rd_col, h]
  have it := iter_range (step := rbt_L0_step Q r) (A := List (List Ct)) (fun k a => ((k : Int), a)) (fun k a => a.length = k) (f := fun k a => a ++ [(fun i : Int => [.i (rd Q i.toNat 0).int, .i (rd Q i.toNat 1).int, .i (rd Q i.toNat 2).int, .i (rd Q i.toNat 3).int, .i (rd Q i.toNat 4).int, .i (rd Q i.toNat 5).int, .i (rd Q i.toNat 6).int, .i (rd Q i.toNat 7).int, .i (rd Q i.toNat 8).int, .i (rd Q i.toNat 9).int, .i (rd Q i.toNat 10).int, .i (rd Q i.toNat 11).int]) (l.getD k 0)]) (out := fun a => ((l.length : Int), a)) (n := l.length) (m := r.length + 1) (v := ((0 : Int), [])) (a0 := [])
    rfl (by omega)
    (fun k hk a ha => ⟨by
      have hx := hd k hk
      have r := hrd k
      generalize l.getD k 0 = x at hx r
      have q1 : (k : Int) < (l.length : Int) := by omega
      have q2 : (0 : Int) ≤ (k : Int) ∧ (k : Int) < (l.length : Int) := ⟨by omega, q1⟩
      have q3 : a.length + (0 + 1) ≤ 9223372036854775807 ∧ (a.length + (0 + 1)) * 96 ≤ 140737488355328 := by omega
      simp only [rbt_L0_step, Int.toNat_natCast, r, hlen, List.length_cons, List.length_nil, cond_dec q1, cond_dec q2, cond_dec hx, cond_dec q3, wrap_in (n := (k : Int) + 1) (by omega) (by omega)]
      rfl, by simp [ha]⟩)
    (fun a _ => by
      simp only [rbt_L0_step, hlen]
      rw [cond_not (by omega)]) rfl
  rw [snoc_map (F := fun i => [.i (rd Q i.toNat 0).int, .i (rd Q i.toNat 1).int, .i (rd Q i.toNat 2).int, .i (rd Q i.toNat 3).int, .i (rd Q i.toNat 4).int, .i (rd Q i.toNat 5).int, .i (rd Q i.toNat 6).int, .i (rd Q i.toNat 7).int, .i (rd Q i.toNat 8).int, .i (rd Q i.toNat 9).int, .i (rd Q i.toNat 10).int, .i (rd Q i.toNat 11).int]) l.length (Nat.le_refl _), List.take_length] at it
  have hp : rbt_L0_p Q r = true := by unfold rbt_L0_p; rw [it]; rfl
  have hv : rbt_L0_v Q r = ((l.length : Int), pairR Q l) := by unfold rbt_L0_v loopRes; rw [it]; rfl
  have pl : (pairR Q l).length = l.length := by simp [pairR]
  have q : 0 < l.length ∧ l.length ≤ 1000 := ⟨h0, hl⟩
  have hb : rboth_v (pairR Q l) = arL Q l := by
    have hrest := rest_length (l := pairR Q l)
    rw [both_split (l := pairR Q l) (l' := partOf (pairR Q l) (1 : Int) ((pairR Q l).length : Int)) (by omega) hrest (fun j c hj => by rw [rd_rest hj])]
    unfold vboth_v
    rw [hrest, pl]
    have z : rd (pairR Q l) 0 = fun j => ([.i (rd Q (l.getD 0 0).toNat 0).int, .i (rd Q (l.getD 0 0).toNat 1).int, .i (rd Q (l.getD 0 0).toNat 2).int, .i (rd Q (l.getD 0 0).toNat 3).int, .i (rd Q (l.getD 0 0).toNat 4).int, .i (rd Q (l.getD 0 0).toNat 5).int, .i (rd Q (l.getD 0 0).toNat 6).int, .i (rd Q (l.getD 0 0).toNat 7).int, .i (rd Q (l.getD 0 0).toNat 8).int, .i (rd Q (l.getD 0 0).toNat 9).int, .i (rd Q (l.getD 0 0).toNat 10).int, .i (rd Q (l.getD 0 0).toNat 11).int] : List Ct).getD j (.i 0) := by funext j; exact rd_map h0
    have e0 : ((rd (pairR Q l) 0 0).int, (rd (pairR Q l) 0 1).int, (rd (pairR Q l) 0 2).int, (rd (pairR Q l) 0 3).int, (rd (pairR Q l) 0 4).int, (rd (pairR Q l) 0 5).int, (rd (pairR Q l) 0 6).int, (rd (pairR Q l) 0 7).int, (rd (pairR Q l) 0 8).int, (rd (pairR Q l) 0 9).int, (rd (pairR Q l) 0 10).int, (rd (pairR Q l) 0 11).int) = prI Q (l.getD 0 0) := by
      simp only [z]; rfl
    rw [e0]
    unfold arL
    refine nfold_congr (fun k hk a => ?_) _
    have z' : ∀ c, rd (partOf (pairR Q l) (1 : Int) (l.length : Int)) k c = ([.i (rd Q (l.getD (k + 1) 0).toNat 0).int, .i (rd Q (l.getD (k + 1) 0).toNat 1).int, .i (rd Q (l.getD (k + 1) 0).toNat 2).int, .i (rd Q (l.getD (k + 1) 0).toNat 3).int, .i (rd Q (l.getD (k + 1) 0).toNat 4).int, .i (rd Q (l.getD (k + 1) 0).toNat 5).int, .i (rd Q (l.getD (k + 1) 0).toNat 6).int, .i (rd Q (l.getD (k + 1) 0).toNat 7).int, .i (rd Q (l.getD (k + 1) 0).toNat 8).int, .i (rd Q (l.getD (k + 1) 0).toNat 9).int, .i (rd Q (l.getD (k + 1) 0).toNat 10).int, .i (rd Q (l.getD (k + 1) 0).toNat 11).int] : List Ct).getD c (.i 0) := fun c => by
      have := rd_rest (l := pairR Q l) (j := k) (c := c) (by omega)
      rw [pl] at this
      rw [this]; exact rd_map (by omega)
    simp only [vboth_L0_F, z']
    rfl
  simp only [rbt_res, hp, hv, pl, cond_dec q, hb, cond_true]
theorem r0_is (h : col r = l) (hl : l.length ≤ 1000) (hr : ∀ i ∈ l, 0 ≤ i ∧ i < Q.length) : rsp_L0_p Q r = true ∧ rsp_L0_v Q r = ((l.length : Int), midR Q l) := by
  have hlen : r.length = l.length := by rw [← h, col_length]
  have hd : ∀ k, k < l.length → 0 ≤ l.getD k 0 ∧ l.getD k 0 < Q.length := fun k hk => hr _ (getD_mem hk)
  have hrd : ∀ k, (rd r k 0).int = l.getD k 0 := fun k => by rw [rd_col, h]
  have it := iter_range (step := rsp_L0_step Q r) (A := List (List Ct)) (fun k a => ((k : Int), a)) (fun k a => a.length = k) (f := fun k a => a ++ [(fun i : Int => midRow (prI Q i)) (l.getD k 0)]) (out := fun a => ((l.length : Int), a)) (n := l.length) (m := r.length + 1) (v := ((0 : Int), [])) (a0 := [])
    rfl (by omega)
    (fun k hk a ha => ⟨by
      have hx := hd k hk
      have hc : rsp_c95449704 Q r (k : Int) = midP (prI Q (l.getD k 0)) := by
        unfold rsp_c95449704
        simp only [Int.toNat_natCast, hrd]
        exact rmi_mid (prI Q (l.getD k 0))
      have r := hrd k
      generalize l.getD k 0 = x at hx r hc
      have q1 : (k : Int) < (l.length : Int) := by omega
      have q2 : (0 : Int) ≤ (k : Int) ∧ (k : Int) < (l.length : Int) := ⟨by omega, q1⟩
      have q3 : a.length + (0 + 1) ≤ 9223372036854775807 ∧ (a.length + (0 + 1)) * 24 ≤ 140737488355328 := by omega
      simp only [rsp_L0_step, Int.toNat_natCast, r, hc, hlen, List.length_cons, List.length_nil, cond_dec q1, cond_dec q2, cond_dec hx, cond_dec q3, wrap_in (n := (k : Int) + 1) (by omega) (by omega)]
      rfl, by simp [ha]⟩)
    (fun a _ => by
      simp only [rsp_L0_step, hlen]
      rw [cond_not (by omega)]) rfl
  rw [snoc_map (F := fun i => midRow (prI Q i)) l.length (Nat.le_refl _), List.take_length] at it
  exact ⟨by unfold rsp_L0_p; rw [it]; rfl, by unfold rsp_L0_v loopRes; rw [it]; rfl⟩
theorem re_is (h : col r = l) (h0 : 0 < l.length) (hl : l.length ≤ 1000) (hr : ∀ i ∈ l, 0 ≤ i ∧ i < Q.length) :
    rsp_c32285572 Q r = ((lowT Q l).1, (lowT Q l).2.1, (lowT Q l).2.2, (highT Q l).1, (highT Q l).2.1, (highT Q l).2.2) ∧ rsp_c60117539 Q r = axT Q l := by
  obtain ⟨_, hv⟩ := r0_is h hl hr
  have ml : (midR Q l).length = l.length := by simp [midR]
  have e : rsp_c32285572 Q r = ((lowT Q l).1, (lowT Q l).2.1, (lowT Q l).2.2, (highT Q l).1, (highT Q l).2.1, (highT Q l).2.2) := by
    unfold rsp_c32285572
    rw [hv]
    exact ends_split (l := midR Q l) (l' := partOf (midR Q l) (1 : Int) ((midR Q l).length : Int)) (by omega) rest_length (fun j hj => by rw [rd_rest hj, rd_rest hj, rd_rest hj]; exact ⟨rfl, rfl, rfl⟩)
  refine ⟨e, ?_⟩
  unfold rsp_c60117539
  rw [e, rwi_twi]
  rfl
theorem ax_cases (Q : List (List Ct)) (l : List Int) : axT Q l = 0 ∨ axT Q l = 1 ∨ axT Q l = 2 := by
  unfold axT twi_v
  generalize absS (sizeT Q l).1 = x
  generalize absS (sizeT Q l).2.1 = y
  generalize absS (sizeT Q l).2.2 = z
  by_cases h1 : y > x <;> by_cases h2 : z > x <;> by_cases h3 : z > y <;> simp [h1, h2, h3]
theorem r4_is (h : col r = l) (h0 : 0 < l.length) (hl : l.length ≤ 1000) (hr : ∀ i ∈ l, 0 ≤ i ∧ i < Q.length) (cut : Int) : rsp_L4_p Q r cut = true ∧ rsp_L4_v Q r cut = ((l.length : Int), rowsI (leftL Q l cut), rowsI (rightL Q l cut)) := by
  have hlen : r.length = l.length := by rw [← h, col_length]
  have hrd : ∀ k, (rd r k 0).int = l.getD k 0 := fun k => by rw [rd_col, h]
  obtain ⟨_, hv0⟩ := r0_is h hl hr
  have hml : (midR Q l).length = l.length := by simp [midR]
  have hmr : ∀ k, k < l.length → ∀ j, rd (midR Q l) k j = (midRow (prI Q (l.getD k 0))).getD j (.i 0) := fun k hk j => rd_map hk
  obtain ⟨hE, hA⟩ := re_is h h0 hl hr
  have hf := part_is (l := l) (fun i => decide (binL Q l i < cut)) l.length (Nat.le_refl _)
  rw [List.take_length] at hf
  have stp : ∀ k, k < l.length → ∀ a : List (List Ct) × List (List Ct), a.1.length ≤ k ∧ a.2.length ≤ k → rsp_L4_step Q r cut ((k : Int), a.1, a.2) = some (.inl (((k + 1 : Nat) : Int), (bif decide (binL Q l (l.getD k 0) < cut) then (a.1 ++ [[Ct.i (l.getD k 0)]], a.2) else (a.1, a.2 ++ [[Ct.i (l.getD k 0)]])).1, (bif decide (binL Q l (l.getD k 0) < cut) then (a.1 ++ [[Ct.i (l.getD k 0)]], a.2) else (a.1, a.2 ++ [[Ct.i (l.getD k 0)]])).2)) := by
    intro k hk a ha
    have q1 : (k : Int) < (l.length : Int) := by omega
    have q2 : (0 : Int) ≤ (k : Int) ∧ (k : Int) < (l.length : Int) := ⟨by omega, q1⟩
    have q3 : a.1.length + (0 + 1) ≤ 9223372036854775807 ∧ (a.1.length + (0 + 1)) * 8 ≤ 140737488355328 := by omega
    have q4 : a.2.length + (0 + 1) ≤ 9223372036854775807 ∧ (a.2.length + (0 + 1)) * 8 ≤ 140737488355328 := by omega
    rcases ax_cases Q l with hax | hax | hax
    · have hb : rsp_c4894249 Q r (k : Int) = binL Q l (l.getD k 0) := by
        unfold rsp_c4894249 binL
        simp only [Int.toNat_natCast, hv0, hmr k hk, rpt_tbi, hE, hax]
        rfl
      simp only [rsp_L4_step, Int.toNat_natCast, hrd, hv0, hml, hlen, hA, hax, cond_dec q1, cond_dec q2,  cond_dec (show (0 : Int) = ((0 : Nat) : Int) from rfl), hb, List.length_cons, List.length_nil, cond_dec q3, cond_dec q4, wrap_in (n := (k : Int) + 1) (by omega) (by omega)]
      cases decide (binL Q l (l.getD k 0) < cut) <;> rfl
    · have hb : rsp_c66912885 Q r (k : Int) = binL Q l (l.getD k 0) := by
        unfold rsp_c66912885 binL
        simp only [Int.toNat_natCast, hv0, hmr k hk, rpt_tbi, hE, hax]
        rfl
      simp only [rsp_L4_step, Int.toNat_natCast, hrd, hv0, hml, hlen, hA, hax, cond_dec q1, cond_dec q2, cond_not (show ¬ (1 : Int) = ((0 : Nat) : Int) from by decide),  cond_dec (show (1 : Int) = ((1 : Nat) : Int) from rfl), hb, List.length_cons, List.length_nil, cond_dec q3, cond_dec q4, wrap_in (n := (k : Int) + 1) (by omega) (by omega)]
      cases decide (binL Q l (l.getD k 0) < cut) <;> rfl
    · have hb : rsp_c82845534 Q r (k : Int) = binL Q l (l.getD k 0) := by
        unfold rsp_c82845534 binL
        simp only [Int.toNat_natCast, hv0, hmr k hk, rpt_tbi, hE, hax]
        rfl
      simp only [rsp_L4_step, Int.toNat_natCast, hrd, hv0, hml, hlen, hA, hax, cond_dec q1, cond_dec q2, cond_not (show ¬ (2 : Int) = ((0 : Nat) : Int) from by decide), cond_not (show ¬ (2 : Int) = ((1 : Nat) : Int) from by decide),  cond_dec (show (2 : Int) = ((2 : Nat) : Int) from rfl), hb, List.length_cons, List.length_nil, cond_dec q3, cond_dec q4, wrap_in (n := (k : Int) + 1) (by omega) (by omega)]
      cases decide (binL Q l (l.getD k 0) < cut) <;> rfl
  have it := iter_range (step := rsp_L4_step Q r cut) (A := List (List Ct) × List (List Ct)) (fun k a => ((k : Int), a.1, a.2)) (fun k a => a.1.length ≤ k ∧ a.2.length ≤ k) (f := fun k a => bif decide (binL Q l (l.getD k 0) < cut) then (a.1 ++ [[Ct.i (l.getD k 0)]], a.2) else (a.1, a.2 ++ [[Ct.i (l.getD k 0)]])) (out := fun a => ((l.length : Int), a.1, a.2)) (n := l.length) (m := r.length + 1) (v := ((0 : Int), [], [])) (a0 := ([], []))
    rfl (by omega)
    (fun k hk a ha => ⟨stp k hk a ha, by
      cases decide (binL Q l (l.getD k 0) < cut) <;> simp only [cond_true, cond_false, List.length_append, List.length_cons, List.length_nil] <;> omega⟩)
    (fun a _ => by
      simp only [rsp_L4_step, hlen]
      rw [cond_not (by omega)]) (by simp)
  rw [hf] at it
  exact ⟨by unfold rsp_L4_p; rw [it]; rfl, by unfold rsp_L4_v loopRes; rw [it]; rfl⟩
end
end Go.Proofs.Ytpfaejbdbdjhhaa
