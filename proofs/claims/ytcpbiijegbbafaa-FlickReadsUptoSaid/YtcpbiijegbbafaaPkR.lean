/- A press's spreading as the document has it, in plain numbers. No condition. -/
import Derived.Test.YtcpbiijegbbafaaPackS
set_option linter.unusedVariables false
set_option linter.unusedSimpArgs false
namespace Go.Proofs.Ytcpbiijegbbafaa
open Go.RowKit

theorem rsp2_it {x0 : List (List Ct)} {x1 : Int} {vl0 : List (List Ct)} {p : Nat} {h : Int} (hh : (rd x0 p 0).int = h) (h0 : 128 ≤ h) (h1 : h < 256) (hl : p + 1 < x0.length) (hl1 : x0.length ≤ 50000) {n : Nat} (hn : (n : Int) = h - 126) :
    ∀ (d i fuel : Nat) (wl : List (List Ct)), i + d = n → d < fuel → wl.length ≤ i → ∃ wl', iter (rsp_L2_step x0 x1 (p : Int) vl0) fuel ((i : Int), wl) = some ((n : Int), wl') ∧ col wl' = col wl ++ List.replicate d ((col x0).getD (p + 1) 0) ∧ wl'.length = wl.length + d := by
  have w0 : IntKind.i64.wrap h = h := wrap_in (by omega) (by omega)
  have w1 : IntKind.i64.wrap (h - 126) = (n : Int) := by rw [wrap_in (by omega) (by omega)]; omega
  have w2 : IntKind.i64.wrap ((p : Int) + 1) = ((p + 1 : Nat) : Int) := by rw [wrap_in (by omega) (by omega)]; omega
  have q1 : (0 : Int) ≤ ((p + 1 : Nat) : Int) ∧ ((p + 1 : Nat) : Int) < (x0.length : Int) := by omega
  intro d
  induction d with
  | zero =>
    intro i fuel wl hi hf hw
    obtain ⟨fuel, rfl⟩ : ∃ k, fuel = k + 1 := ⟨fuel - 1, by omega⟩
    obtain rfl : i = n := by omega
    refine ⟨wl, iter_inr ?_, by simp, rfl⟩
    have q : ¬ ((i : Int) < (i : Int)) := by omega
    simp only [rsp_L2_step, Int.toNat_natCast, hh, w0, w1, cond_not q]
  | succ d ih =>
    intro i fuel wl hi hf hw
    obtain ⟨fuel, rfl⟩ : ∃ k, fuel = k + 1 := ⟨fuel - 1, by omega⟩
    have q : ((i : Int) < (n : Int)) := by omega
    have w3 : IntKind.i64.wrap ((i : Int) + 1) = ((i + 1 : Nat) : Int) := by rw [wrap_in (by omega) (by omega)]; omega
    have hst : rsp_L2_step x0 x1 (p : Int) vl0 ((i : Int), wl) = some (.inl (((i + 1 : Nat) : Int), wl ++ [[Ct.i (rd x0 (p + 1) 0).int]])) := by
      simp only [rsp_L2_step, Int.toNat_natCast, hh, w0, w1, cond_dec q, w2, cond_dec q1, w3]
      rw [cond_dec]
      simp only [List.length_cons, List.length_nil]; omega
    obtain ⟨wl', i1, i2, i3⟩ := ih (i + 1) fuel (wl ++ [[Ct.i (rd x0 (p + 1) 0).int]]) (by omega) (by omega) (by simp; omega)
    refine ⟨wl', by rw [iter_inl hst]; exact i1, ?_, by rw [i3]; simp; omega⟩
    rw [i2, col_app, col_cons, col_nil, rd_col, List.replicate_succ]
    simp [Ct.int]
theorem rsp_it {x0 : List (List Ct)} {x1 : Int} (hx0 : -9223372036854775808 ≤ x1) (hx1 : x1 ≤ 9223372036854775807) (hB : Byt (col x0)) (h50 : x0.length ≤ 50000) :
    ∀ (f p : Nat) (vl0 : List (List Ct)), p ≤ x0.length → x0.length - p ≤ f → vl0.length + 130 * (x0.length - p) ≤ 10000000 →
      ∃ r, iter (rsp_L0_step x0 x1) (f + 1) ((p : Int), vl0) = some r ∧ Rel (fun a : Int × List (List Ct) => a.2) r (sprd x1 f (col vl0) ((col x0).drop p)) := by
  intro f
  induction f with
  | zero =>
    intro p vl0 hp hf hv
    have q : ¬ ((p : Int) < (x0.length : Int)) := by omega
    exact ⟨.inl (p, vl0), iter_inr (by simp only [rsp_L0_step, cond_not q]), .inl ⟨_, rfl, rfl⟩⟩
  | succ f ih =>
    intro p vl0 hp' hf hv
    by_cases hp : p < x0.length
    · have hd := col_cons_at hp
      have hr := hB (rd x0 p 0).int (List.mem_of_mem_drop (by rw [hd]; exact List.mem_cons_self ..))
      generalize hh : (rd x0 p 0).int = h at *
      have q0 : (p : Int) < (x0.length : Int) := by omega
      have q1 : (0 : Int) ≤ (p : Int) ∧ (p : Int) < (x0.length : Int) := by omega
      have w0 : IntKind.i64.wrap h = h := wrap_in (by omega) (by omega)
      have w1 : IntKind.i64.wrap ((p : Int) + 1) = ((p + 1 : Nat) : Int) := by rw [wrap_in (by omega) (by omega)]; omega
      have w2 : IntKind.i64.wrap ((p : Int) + 2) = ((p + 2 : Nat) : Int) := by rw [wrap_in (by omega) (by omega)]; omega
      have ht : ((col x0).drop (p + 1)).length = x0.length - (p + 1) := by simp [col_length]
      rw [hd, sprd]
      by_cases h128 : 128 ≤ h
      · rw [if_pos h128]
        have g0 : ¬ h < 128 := by omega
        by_cases ha : x0.length = p + 1
        · rw [if_pos (by omega)]
          refine ⟨.inr 9, iter_inr ?_, .inr ⟨9, rfl, rfl⟩⟩
          have q2 : ((p + 2 : Nat) : Int) > (x0.length : Int) := by omega
          simp only [rsp_L0_step, Int.toNat_natCast, hh, w0, w1, w2, cond_dec q0, cond_dec q1, cond_not g0, cond_dec q2]
        · rw [if_neg (by omega)]
          have q2 : ¬ ((p + 2 : Nat) : Int) > (x0.length : Int) := by omega
          obtain ⟨wl', i1, i2, i3⟩ := rsp2_it (x0 := x0) (x1 := x1) (vl0 := vl0) hh h128 hr.2 (by omega) h50 (n := (h - 126).toNat) (by omega) (h - 126).toNat 0 1000 [] (by omega) (by omega) (by simp)
          have e : ((0 : Nat) : Int) = (0 : Int) := rfl
          rw [e] at i1
          rw [List.length_nil, Nat.zero_add] at i3
          have p1 : rsp_L2_p x0 x1 (p : Int) vl0 = true := by unfold rsp_L2_p; rw [i1]; rfl
          have p2 : (rsp_L2_v x0 x1 (p : Int) vl0).2 = wl' := by unfold rsp_L2_v loopRes; rw [i1]; rfl
          have w3 : IntKind.i64.wrap ((vl0.length : Int) + (wl'.length : Int)) = (vl0.length : Int) + (wl'.length : Int) := wrap_in (by omega) (by omega)
          by_cases hb : h - 126 > x1 - (vl0.length : Int)
          · rw [if_pos (by rw [col_length]; exact hb)]
            refine ⟨.inr 8, iter_inr ?_, .inr ⟨8, rfl, rfl⟩⟩
            by_cases hc : x1 < 0
            · simp only [rsp_L0_step, Int.toNat_natCast, hh, w0, w1, w2, cond_dec q0, cond_dec q1, cond_not g0, cond_not q2, p1, cond_true, cond_dec hc]
            · have q3 : (vl0.length : Int) + (wl'.length : Int) > x1 := by omega
              simp only [rsp_L0_step, Int.toNat_natCast, hh, w0, w1, w2, cond_dec q0, cond_dec q1, cond_not g0, cond_not q2, p1, p2, cond_true, cond_not hc, w3, cond_dec q3]
          · rw [if_neg (by rw [col_length]; exact hb)]
            have hc : ¬ x1 < 0 := by omega
            have q3 : ¬ (vl0.length : Int) + (wl'.length : Int) > x1 := by omega
            have hst : rsp_L0_step x0 x1 ((p : Int), vl0) = some (.inl (((p + 2 : Nat) : Int), vl0 ++ wl')) := by
              simp only [rsp_L0_step, Int.toNat_natCast, hh, w0, w1, w2, cond_dec q0, cond_dec q1, cond_not g0, cond_not q2, p1, p2, cond_true, cond_not hc, w3, cond_not q3]
              rw [cond_dec]
              omega
            obtain ⟨r, r1, r2⟩ := ih (p + 2) (vl0 ++ wl') (by omega) (by omega) (by simp; omega)
            refine ⟨r, by rw [iter_inl hst]; exact r1, ?_⟩
            rw [col_app, i2, col_nil, List.nil_append] at r2
            rw [show ((col x0).drop (p + 1)).getD 0 0 = (col x0).getD (p + 1) 0 by simp [List.getD], List.drop_drop]
            exact r2
      · rw [if_neg h128]
        have g0 : h < 128 := by omega
        have w3 : IntKind.i64.wrap (((p + 1 : Nat) : Int) + h) = ((p + 1 : Nat) : Int) + h := wrap_in (by omega) (by omega)
        have w4 : IntKind.i64.wrap (((p + 1 : Nat) : Int) + h + 1) = ((p + 1 : Nat) : Int) + h + 1 := wrap_in (by omega) (by omega)
        by_cases ha : ((p + 1 : Nat) : Int) + h + 1 > (x0.length : Int)
        · rw [if_pos (by omega)]
          refine ⟨.inr 9, iter_inr ?_, .inr ⟨9, rfl, rfl⟩⟩
          simp only [rsp_L0_step, Int.toNat_natCast, hh, w0, w1, w2, w3, w4, cond_dec q0, cond_dec q1, cond_dec g0, cond_dec ha]
        · rw [if_neg (by omega)]
          have w5 : IntKind.i64.wrap (((p + 2 : Nat) : Int) + h) = ((p + 2 + h.toNat : Nat) : Int) := by rw [wrap_in (by omega) (by omega)]; omega
          have q2 : (0 : Int) ≤ ((p + 1 : Nat) : Int) ∧ ((p + 1 : Nat) : Int) ≤ ((p + 2 + h.toNat : Nat) : Int) ∧ ((p + 2 + h.toNat : Nat) : Int) ≤ (x0.length : Int) := by omega
          have hpl : (partOf x0 ((p + 1 : Nat) : Int) ((p + 2 + h.toNat : Nat) : Int)).length = h.toNat + 1 := by rw [part_length (by omega)]; omega
          have hpc : col (partOf x0 ((p + 1 : Nat) : Int) ((p + 2 + h.toNat : Nat) : Int)) = ((col x0).drop (p + 1)).take (h + 1).toNat := by
            rw [col_part]; simp only [Int.toNat_natCast]; congr 1; omega
          generalize hwl : partOf x0 ((p + 1 : Nat) : Int) ((p + 2 + h.toNat : Nat) : Int) = wl at *
          have q4 : 0 + wl.length ≤ 9223372036854775807 ∧ (0 + wl.length) * 1 ≤ 140737488355328 := by omega
          have w6 : IntKind.i64.wrap ((vl0.length : Int) + (wl.length : Int)) = (vl0.length : Int) + (wl.length : Int) := wrap_in (by omega) (by omega)
          by_cases hb : h + 1 > x1 - (vl0.length : Int)
          · rw [if_pos (by rw [col_length]; exact hb)]
            refine ⟨.inr 8, iter_inr ?_, .inr ⟨8, rfl, rfl⟩⟩
            by_cases hc : x1 < 0
            · simp only [rsp_L0_step, Int.toNat_natCast, hh, w0, w1, w2, w3, w4, w5, cond_dec q0, cond_dec q1, cond_dec g0, cond_not ha, cond_dec q2, hwl, cond_dec q4, List.nil_append, cond_dec hc]
            · have q3 : (vl0.length : Int) + (wl.length : Int) > x1 := by omega
              simp only [rsp_L0_step, Int.toNat_natCast, hh, w0, w1, w2, w3, w4, w5, cond_dec q0, cond_dec q1, cond_dec g0, cond_not ha, cond_dec q2, hwl, cond_dec q4, List.nil_append, cond_not hc, w6, cond_dec q3]
          · rw [if_neg (by rw [col_length]; exact hb)]
            have hc : ¬ x1 < 0 := by omega
            have q3 : ¬ (vl0.length : Int) + (wl.length : Int) > x1 := by omega
            have hst : rsp_L0_step x0 x1 ((p : Int), vl0) = some (.inl (((p + 2 + h.toNat : Nat) : Int), vl0 ++ wl)) := by
              simp only [rsp_L0_step, Int.toNat_natCast, hh, w0, w1, w2, w3, w4, w5, cond_dec q0, cond_dec q1, cond_dec g0, cond_not ha, cond_dec q2, hwl, cond_dec q4, List.nil_append, cond_not hc, w6, cond_not q3]
              rw [cond_dec]
              omega
            obtain ⟨r, r1, r2⟩ := ih (p + 2 + h.toNat) (vl0 ++ wl) (by omega) (by omega) (by simp; omega)
            refine ⟨r, by rw [iter_inl hst]; exact r1, ?_⟩
            rw [col_app, hpc] at r2
            rw [List.drop_drop, show p + 1 + (h + 1).toNat = p + 2 + h.toNat by omega]
            exact r2
    · have q : ¬ ((p : Int) < (x0.length : Int)) := by omega
      exact ⟨.inl (p, vl0), iter_inr (by simp only [rsp_L0_step, cond_not q]), .inl ⟨_, rfl, by rw [List.drop_eq_nil_of_le (by rw [col_length]; omega), sprd_nil]⟩⟩
theorem rsp_is {x0 : List (List Ct)} {x1 : Int} (hx0 : -9223372036854775808 ≤ x1) (hx1 : x1 ≤ 9223372036854775807) (hl : x0.length ≤ 50000) (hB : Byt (col x0)) :
    (rsp_res x0 x1).isSome = true ∧ (rsp_v x0 x1).1 = (sprO (sprd x1 x0.length [] (col x0))).1 ∧ col (rsp_v x0 x1).2 = (sprO (sprd x1 x0.length [] (col x0))).2 := by
  obtain ⟨r, r1, r2⟩ := rsp_it (x0 := x0) hx0 hx1 hB hl x0.length 0 [] (by omega) (by omega) (by simp; omega)
  have e0 : ((0 : Nat) : Int) = (0 : Int) := rfl
  rw [e0] at r1
  have p1 : rsp_L0_p x0 x1 = true := by unfold rsp_L0_p; rw [r1]; rfl
  have p2 : rsp_L0_v x0 x1 = r := by unfold rsp_L0_v; rw [r1]; rfl
  have e : rsp_v x0 x1 = (rsp_res x0 x1).getD default := rfl
  rw [col_nil, List.drop_zero] at r2
  rcases r2 with ⟨a, rfl, hs⟩ | ⟨k, rfl, hs⟩
  · have : rsp_res x0 x1 = some (0, a.2) := by unfold rsp_res; rw [p1, p2]; rfl
    rw [e, this, hs]; exact ⟨rfl, rfl, rfl⟩
  · have : rsp_res x0 x1 = some (k, []) := by unfold rsp_res; rw [p1, p2]; rfl
    rw [e, this, hs]; exact ⟨rfl, rfl, rfl⟩
end Go.Proofs.Ytcpbiijegbbafaa
