/- Trees: the document's split, in plain numbers. No condition. -/
import Derived.Test.YtpfaejbdbdjhhaaTrR1
set_option linter.unusedVariables false
set_option linter.unusedSimpArgs false
namespace Go.Proofs.Ytpfaejbdbdjhhaa
open Go.RowKit

section
variable {r Q : List (List Ct)} {l : List Int}
/-- Where the cuts stand. -/
def cutR (k : Nat) (st : Option (List Int × List Int × Int)) : Int × Int × List (List Ct) × List (List Ct) :=
  match st with
  | none => (0, (k : Int) + 1, [], [])
  | some b => (b.2.2, (k : Int) + 1, rowsI b.1, rowsI b.2.1)
theorem r2_is (h : col r = l) (h0 : 0 < l.length) (hl : l.length ≤ 1000) (hr : ∀ i ∈ l, 0 ≤ i ∧ i < Q.length) : iter (rsp_L2_step Q r) 8 (0, 1, [], []) = some (cutR 7 (bestL Q l)) := by
  have hco : ∀ q : List Int, (∀ i ∈ q, i ∈ l) → 0 < q.length → q.length ≤ 1000 → rbt_res Q (rowsI q) = some (arL Q q) := fun q hq h0 h1 => rbt_is (col_rowsI q) h0 h1 fun i hi => hr i (hq i hi)
  have hLm : ∀ cut i, i ∈ leftL Q l cut → i ∈ l := fun cut i hi => (List.mem_filter.1 hi).1
  have hRm : ∀ cut i, i ∈ rightL Q l cut → i ∈ l := fun cut i hi => (List.mem_filter.1 hi).1
  have hlen : ∀ cut, (leftL Q l cut).length + (rightL Q l cut).length = l.length := fun cut => by have := (left_right Q l cut).length_eq; simpa using this
  refine iter_range (S := fun k st => cutR k st) (Inv := fun _ st => ∀ b, st = some b → 0 < b.1.length) (f := stepB Q l) (out := fun st => cutR 7 st) (n := 7) (a0 := none) rfl (by omega) (fun k hk st hi => ?_) (fun st hi => ?_) (fun b hb => by cases hb)
  · have w1 : IntKind.i64.wrap ((k : Int) + 1 + 1) = ((k + 1 : Nat) : Int) + 1 := by rw [wrap_in (by omega) (by omega)]; omega
    have q1 : (k : Int) + 1 < 8 := by omega
    have hl1 := hlen ((k : Int) + 1)
    obtain ⟨p, v⟩ := r4_is h h0 hl hr ((k : Int) + 1)
    have inv : ∀ b, stepB Q l k st = some b → 0 < b.1.length := by
      intro b hb
      unfold stepB at hb
      split at hb
      · exact hi b hb
      · rename_i hc
        split at hb
        · cases hb; exact Nat.pos_of_ne_zero fun h => hc (.inl h)
        · split at hb
          · cases hb; exact Nat.pos_of_ne_zero fun h => hc (.inl h)
          · cases hb; exact hi _ rfl
    refine ⟨?_, inv⟩
    by_cases e1 : (leftL Q l ((k : Int) + 1)).length = 0
    · have hs : stepB Q l k st = st := by unfold stepB; rw [if_pos (.inl e1)]
      rw [hs]
      cases st with
      | none => show rsp_L2_step Q r (0, (k : Int) + 1, [], []) = _; simp only [cutR, rsp_L2_step, cond_dec q1, p, v, rowsI_length, e1, cond_true, w1, Int.natCast_zero, beq_self_eq_true]
      | some b => show rsp_L2_step Q r (b.2.2, (k : Int) + 1, rowsI b.1, rowsI b.2.1) = _; simp only [cutR, rsp_L2_step, cond_dec q1, p, v, rowsI_length, e1, cond_true, w1, Int.natCast_zero, beq_self_eq_true]
    · have b1 : (((leftL Q l ((k : Int) + 1)).length : Int) == (0 : Int)) = false := by rw [beq_eq_false_iff_ne]; omega
      by_cases e2 : (rightL Q l ((k : Int) + 1)).length = 0
      · have hs : stepB Q l k st = st := by unfold stepB; rw [if_pos (.inr e2)]
        rw [hs]
        cases st with
        | none => show rsp_L2_step Q r (0, (k : Int) + 1, [], []) = _; simp only [cutR, rsp_L2_step, cond_dec q1, p, v, rowsI_length, b1, e2, cond_true, cond_false, w1, Int.natCast_zero, beq_self_eq_true]
        | some b => show rsp_L2_step Q r (b.2.2, (k : Int) + 1, rowsI b.1, rowsI b.2.1) = _; simp only [cutR, rsp_L2_step, cond_dec q1, p, v, rowsI_length, b1, e2, cond_true, cond_false, w1, Int.natCast_zero, beq_self_eq_true]
      · have b2 : (((rightL Q l ((k : Int) + 1)).length : Int) == (0 : Int)) = false := by rw [beq_eq_false_iff_ne]; omega
        have c1 := hco _ (hLm ((k : Int) + 1)) (by omega) (by omega)
        have c2 := hco _ (hRm ((k : Int) + 1)) (by omega) (by omega)
        have v1 : rsp_c33145625 Q r ((k : Int) + 1) = arL Q (leftL Q l ((k : Int) + 1)) := by unfold rsp_c33145625 rbt_v; rw [v, c1]; rfl
        have v2 : rsp_c80534617 Q r ((k : Int) + 1) = arL Q (rightL Q l ((k : Int) + 1)) := by unfold rsp_c80534617 rbt_v; rw [v, c2]; rfl
        have d1 : rsp_c72045671 Q r ((k : Int) + 1) = skP (arL Q (leftL Q l ((k : Int) + 1))) := by unfold rsp_c72045671 rsp_c89942156; rw [v1, rsk_tsk, rwh_twh]; rfl
        have d2 : rsp_c72652981 Q r ((k : Int) + 1) = skP (arL Q (rightL Q l ((k : Int) + 1))) := by unfold rsp_c72652981 rsp_c98134443; rw [v2, rsk_tsk, rwh_twh]; rfl
        have f1 : IntKind.i64.wrap (((leftL Q l ((k : Int) + 1)).length : Int) * skP (arL Q (leftL Q l ((k : Int) + 1)))) = costL Q (leftL Q l ((k : Int) + 1)) := rfl
        have f2 : IntKind.i64.wrap (((rightL Q l ((k : Int) + 1)).length : Int) * skP (arL Q (rightL Q l ((k : Int) + 1)))) = costL Q (rightL Q l ((k : Int) + 1)) := rfl
        have hne : ¬ ((leftL Q l ((k : Int) + 1)).length = 0 ∨ (rightL Q l ((k : Int) + 1)).length = 0) := by omega
        cases st with
        | none =>
          have hs : stepB Q l k none = some (leftL Q l ((k : Int) + 1), rightL Q l ((k : Int) + 1), IntKind.i64.wrap (costL Q (leftL Q l ((k : Int) + 1)) + costL Q (rightL Q l ((k : Int) + 1)))) := by unfold stepB; rw [if_neg hne]
          rw [hs]
          show rsp_L2_step Q r (0, (k : Int) + 1, [], []) = _; 
          simp only [cutR, rsp_L2_step, cond_dec q1, p, v, rowsI_length, b1, b2, c1, c2, d1, d2, f1, f2, Option.isSome_some, cond_true, cond_false, w1, List.length_nil, Int.natCast_zero, beq_self_eq_true]
        | some b =>
          have hb0 : (((b.1.length : Nat) : Int) == (0 : Int)) = false := by have := hi b rfl; rw [beq_eq_false_iff_ne]; omega
          by_cases e3 : IntKind.i64.wrap (costL Q (leftL Q l ((k : Int) + 1)) + costL Q (rightL Q l ((k : Int) + 1))) < b.2.2
          · have hs : stepB Q l k (some b) = some (leftL Q l ((k : Int) + 1), rightL Q l ((k : Int) + 1), IntKind.i64.wrap (costL Q (leftL Q l ((k : Int) + 1)) + costL Q (rightL Q l ((k : Int) + 1)))) := by unfold stepB; rw [if_neg hne]; exact if_pos e3
            rw [hs]
            show rsp_L2_step Q r (b.2.2, (k : Int) + 1, rowsI b.1, rowsI b.2.1) = _; 
            simp only [cutR, rsp_L2_step, cond_dec q1, p, v, rowsI_length, b1, b2, c1, c2, d1, d2, f1, f2, hb0, cond_dec e3, Option.isSome_some, cond_true, cond_false, w1]
          · have hs : stepB Q l k (some b) = some b := by unfold stepB; rw [if_neg hne]; exact if_neg e3
            rw [hs]
            show rsp_L2_step Q r (b.2.2, (k : Int) + 1, rowsI b.1, rowsI b.2.1) = _; 
            simp only [cutR, rsp_L2_step, cond_dec q1, p, v, rowsI_length, b1, b2, c1, c2, d1, d2, f1, f2, hb0, cond_not e3, Option.isSome_some, cond_true, cond_false, w1]
  · cases st with
    | none => rfl
    | some b => rfl
/-- The document's split. -/
theorem rsp_is (h : col r = l) (h0 : 2 ≤ l.length) (hl : l.length ≤ 1000) (hr : ∀ i ∈ l, 0 ≤ i ∧ i < Q.length) : ∃ a c, rsp_res Q r = some (a, c) ∧ col a = (splitL Q l).1 ∧ col c = (splitL Q l).2 := by
  have hlen : r.length = l.length := by rw [← h, col_length]
  obtain ⟨p0, v0⟩ := r0_is h hl hr
  obtain ⟨hE, hA⟩ := re_is h (by omega) hl hr
  have i2 := r2_is h (by omega) hl hr
  have p2 : rsp_L2_p Q r = true := by unfold rsp_L2_p; rw [i2]; rfl
  have v2 : rsp_L2_v Q r = cutR 7 (bestL Q l) := by unfold rsp_L2_v loopRes; rw [i2]; rfl
  have ml : (midR Q l).length = l.length := by simp [midR]
  have q1 : 0 < l.length ∧ l.length ≤ 9223372036854775807 := by omega
  have half : IntKind.i64.wrap ((l.length : Int).tdiv 2) = ((l.length / 2 : Nat) : Int) := by
    have e : (l.length : Int).tdiv 2 = ((l.length / 2 : Nat) : Int) := by rw [Int.tdiv_eq_ediv_of_nonneg (by omega)]; omega
    rw [e, wrap_in (by omega) (by omega)]
  have q2 : (0 : Int) ≤ (0 : Int) ∧ (0 : Int) ≤ ((l.length / 2 : Nat) : Int) ∧ ((l.length / 2 : Nat) : Int) ≤ (l.length : Int) := by omega
  have q3 : (0 : Int) ≤ ((l.length / 2 : Nat) : Int) ∧ ((l.length / 2 : Nat) : Int) ≤ (l.length : Int) ∧ (l.length : Int) ≤ (l.length : Int) := by omega
  have g1 : col (partOf r (0 : Int) ((l.length / 2 : Nat) : Int)) = l.take (l.length / 2) := by rw [col_part, h, Int.toNat_natCast, show Int.toNat (0 : Int) = 0 from rfl]; simp
  have g2 : col (partOf r ((l.length / 2 : Nat) : Int) (l.length : Int)) = l.drop (l.length / 2) := by
    rw [col_part, h]
    simp only [Int.toNat_natCast]
    rw [List.take_of_length_le (by rw [List.length_drop]; omega)]
  have z0 : (((0 : Nat) : Int) == (0 : Int)) = true := rfl
  have fin : ∀ s : Int, s = at3 (sizeT Q l) (axT Q l) → ∃ a c, (bif decide (s ≤ (0 : Int)) then (some (partOf r (0 : Int) ((l.length / 2 : Nat) : Int), partOf r ((l.length / 2 : Nat) : Int) (l.length : Int))) else bif (((cutR 7 (bestL Q l)).2.2.1.length : Int) == (0 : Int)) then (some (partOf r (0 : Int) ((l.length / 2 : Nat) : Int), partOf r ((l.length / 2 : Nat) : Int) (l.length : Int))) else some ((cutR 7 (bestL Q l)).2.2.1, (cutR 7 (bestL Q l)).2.2.2)) = some (a, c) ∧ col a = (splitL Q l).1 ∧ col c = (splitL Q l).2 := by
    intro s hs
    unfold splitL
    rw [← hs]
    by_cases e1 : s ≤ 0
    · rw [cond_dec e1, if_pos e1]
      exact ⟨_, _, rfl, g1, g2⟩
    · rw [cond_not e1, if_neg e1]
      cases hb : bestL Q l with
      | none =>
        refine ⟨_, _, ?_, g1, g2⟩
        simp only [cutR, List.length_nil, z0, cond_true]
      | some b =>
        have hinv := best_inv Q l 7 b hb
        have hb0 : (((b.1.length : Nat) : Int) == (0 : Int)) = false := by rw [beq_eq_false_iff_ne]; omega
        refine ⟨rowsI b.1, rowsI b.2.1, ?_, col_rowsI _, col_rowsI _⟩
        simp only [cutR, rowsI_length, hb0, cond_false]
  rcases ax_cases Q l with hax | hax | hax
  · simp only [rsp_res, p0, v0, ml, hlen, cond_dec q1, hA, hE, hax, p2, v2, half, cond_dec q2, cond_dec q3, cond_true, cond_dec (show (0 : Int) = ((0 : Nat) : Int) from rfl)]
    exact fin _ (by rw [hax]; rfl)
  · simp only [rsp_res, p0, v0, ml, hlen, cond_dec q1, hA, hE, hax, p2, v2, half, cond_dec q2, cond_dec q3, cond_true, cond_not (show ¬ (1 : Int) = ((0 : Nat) : Int) from by decide), cond_dec (show (1 : Int) = ((1 : Nat) : Int) from rfl)]
    exact fin _ (by rw [hax]; rfl)
  · simp only [rsp_res, p0, v0, ml, hlen, cond_dec q1, hA, hE, hax, p2, v2, half, cond_dec q2, cond_dec q3, cond_true, cond_not (show ¬ (2 : Int) = ((0 : Nat) : Int) from by decide), cond_not (show ¬ (2 : Int) = ((1 : Nat) : Int) from by decide), cond_dec (show (2 : Int) = ((2 : Nat) : Int) from rfl)]
    exact fin _ (by rw [hax]; rfl)
end
end Go.Proofs.Ytpfaejbdbdjhhaa
