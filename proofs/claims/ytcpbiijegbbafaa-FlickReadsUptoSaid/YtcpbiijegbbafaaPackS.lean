/- Spread bytes and pieces in plain numbers: what their loops answer. No condition. -/
import Derived.Test.YtcpbiijegbbafaaPackL
import Derived.Test.YtcpbiijegbbafaaByt
set_option linter.unusedVariables false
set_option linter.unusedSimpArgs false
namespace Go.Proofs.Ytcpbiijegbbafaa
open Go.RowKit

/-- Bytes. -/
def sprd (most : Int) : Nat → List Int → List Int → List Int ⊕ Int
  | 0, out, _ => .inl out
  | _ + 1, out, [] => .inl out
  | f + 1, out, h :: t =>
    if 128 ≤ h then (if t.length < 1 then .inr 9 else if h - 126 > most - out.length then .inr 8 else sprd most f (out ++ List.replicate (h - 126).toNat (t.getD 0 0)) (t.drop 1))
    else if (t.length : Int) < h + 1 then .inr 9 else if h + 1 > most - out.length then .inr 8 else sprd most f (out ++ t.take (h + 1).toNat) (t.drop (h + 1).toNat)
theorem sprd_nil {most : Int} {f : Nat} {out : List Int} : sprd most f out [] = .inl out := by cases f <;> rfl

theorem psp3_run {x0 : List (List Ct)} {x1 : Int} {vl0 vl1 : List (List Ct)} {h : Int} (hh : (rd vl1 0 0).int = h) (h0 : 128 ≤ h) (h1 : h < 256) (hl : 1 < vl1.length) (hl1 : vl1.length ≤ 50000) {n : Nat} (hn : (n : Int) = h - 126) :
    ∀ (d i fuel : Nat) (wl : List (List Ct)), i + d = n → d < fuel → wl.length ≤ 10000000 + i → ∃ wl', iter (psp_L3_step x0 x1 vl0 vl1) fuel ((i : Int), wl) = some ((n : Int), wl') ∧ col wl' = col wl ++ List.replicate d ((col vl1).getD 1 0) ∧ wl'.length = wl.length + d := by
  have w0 : IntKind.i64.wrap h = h := wrap_in (by omega) (by omega)
  have w1 : IntKind.i64.wrap (h - 126) = (n : Int) := by rw [wrap_in (by omega) (by omega)]; omega
  have q0 : h ≥ 128 := h0
  have w2 : IntKind.i64.wrap (1 + 0) = (1 : Int) := rfl
  have q1 : (0 : Int) ≤ 1 ∧ (1 : Int) < (vl1.length : Int) := by omega
  intro d
  induction d with
  | zero =>
    intro i fuel wl hi hf hw
    obtain ⟨fuel, rfl⟩ : ∃ k, fuel = k + 1 := ⟨fuel - 1, by omega⟩
    obtain rfl : i = n := by omega
    refine ⟨wl, iter_inr ?_, by simp, rfl⟩
    have q : ¬ ((i : Int) < (i : Int)) := by omega
    simp only [psp_L3_step, Int.toNat_zero, hh, w0, cond_dec q0, w1, cond_not q]
  | succ d ih =>
    intro i fuel wl hi hf hw
    obtain ⟨fuel, rfl⟩ : ∃ k, fuel = k + 1 := ⟨fuel - 1, by omega⟩
    have q : ((i : Int) < (n : Int)) := by omega
    have w3 : IntKind.i64.wrap ((i : Int) + 1) = ((i + 1 : Nat) : Int) := by rw [wrap_in (by omega) (by omega)]; omega
    have hst : psp_L3_step x0 x1 vl0 vl1 ((i : Int), wl) = some (.inl (((i + 1 : Nat) : Int), wl ++ [[Ct.i (rd vl1 1 0).int]])) := by
      simp only [psp_L3_step, Int.toNat_zero, hh, w0, cond_dec q0, w1, cond_dec q, cond_true, w2, cond_dec q1, w3, Int.toNat_one]
      rw [cond_dec]
      simp only [List.length_cons, List.length_nil]; omega
    obtain ⟨wl', i1, i2, i3⟩ := ih (i + 1) fuel (wl ++ [[Ct.i (rd vl1 1 0).int]]) (by omega) (by omega) (by simp; omega)
    refine ⟨wl', by rw [iter_inl hst]; exact i1, ?_, by rw [i3]; simp; omega⟩
    rw [i2, col_app, col_cons, col_nil, rd_col, List.replicate_succ]
    simp [Ct.int]
theorem psp3_plain {x0 : List (List Ct)} {x1 : Int} {vl0 vl1 : List (List Ct)} {h : Int} (hh : (rd vl1 0 0).int = h) (h0 : ¬ 128 ≤ h) (h1 : 0 ≤ h) (hl1 : vl1.length ≤ 50000) {n : Nat} (hn : (n : Int) = h + 1) (hl : n < vl1.length) :
    ∀ (d i fuel : Nat) (wl : List (List Ct)), i + d = n → d < fuel → wl.length ≤ 10000000 + i → ∃ wl', iter (psp_L3_step x0 x1 vl0 vl1) fuel ((i : Int), wl) = some ((n : Int), wl') ∧ col wl' = col wl ++ ((col vl1).drop (1 + i)).take d ∧ wl'.length = wl.length + d := by
  have w0 : IntKind.i64.wrap h = h := wrap_in (by omega) (by omega)
  have w1 : IntKind.i64.wrap (h + 1) = (n : Int) := by rw [wrap_in (by omega) (by omega)]; omega
  have q0 : ¬ h ≥ 128 := h0
  intro d
  induction d with
  | zero =>
    intro i fuel wl hi hf hw
    obtain ⟨fuel, rfl⟩ : ∃ k, fuel = k + 1 := ⟨fuel - 1, by omega⟩
    obtain rfl : i = n := by omega
    refine ⟨wl, iter_inr ?_, by simp, rfl⟩
    have q : ¬ ((i : Int) < (i : Int)) := by omega
    simp only [psp_L3_step, Int.toNat_zero, hh, w0, cond_not q0, w1, cond_not q]
  | succ d ih =>
    intro i fuel wl hi hf hw
    obtain ⟨fuel, rfl⟩ : ∃ k, fuel = k + 1 := ⟨fuel - 1, by omega⟩
    have q : ((i : Int) < (n : Int)) := by omega
    have w2 : IntKind.i64.wrap (1 + (i : Int)) = ((1 + i : Nat) : Int) := by rw [wrap_in (by omega) (by omega)]; omega
    have w3 : IntKind.i64.wrap ((i : Int) + 1) = ((i + 1 : Nat) : Int) := by rw [wrap_in (by omega) (by omega)]; omega
    have q1 : (0 : Int) ≤ ((1 + i : Nat) : Int) ∧ ((1 + i : Nat) : Int) < (vl1.length : Int) := by omega
    have hst : psp_L3_step x0 x1 vl0 vl1 ((i : Int), wl) = some (.inl (((i + 1 : Nat) : Int), wl ++ [[Ct.i (rd vl1 (1 + i) 0).int]])) := by
      simp only [psp_L3_step, Int.toNat_zero, hh, w0, cond_not q0, w1, cond_dec q, cond_false, w2, cond_dec q1, w3, Int.toNat_natCast]
      rw [cond_dec]
      simp only [List.length_cons, List.length_nil]; omega
    obtain ⟨wl', i1, i2, i3⟩ := ih (i + 1) fuel (wl ++ [[Ct.i (rd vl1 (1 + i) 0).int]]) (by omega) (by omega) (by simp; omega)
    refine ⟨wl', by rw [iter_inl hst]; exact i1, ?_, by rw [i3]; simp; omega⟩
    have hd := col_cons_at (x0 := vl1) (p := 1 + i) (by omega)
    rw [i2, col_app, col_cons, col_nil, hd, List.take_succ_cons]
    simp [Ct.int, Nat.add_assoc]

/-- What a loop answers is what the plain one does. -/
def Rel {α : Type} (g : α → List (List Ct)) (r : α ⊕ Int) (s : List Int ⊕ Int) : Prop := (∃ a, r = .inl a ∧ s = .inl (col (g a))) ∨ ∃ e, r = .inr e ∧ s = .inr e
theorem psp_it {x0 : List (List Ct)} {x1 : Int} (hx0 : -9223372036854775808 ≤ x1) (hx1 : x1 ≤ 9223372036854775807) :
    ∀ (f : Nat) (vl0 vl1 : List (List Ct)), Byt (col vl1) → vl1.length ≤ f → vl1.length ≤ 50000 → vl0.length + 130 * vl1.length ≤ 10000000 → (vl0.length = 0 ∨ 0 ≤ x1) →
      ∃ r, iter (psp_L0_step x0 x1) (f + 1) (vl0, vl1) = some r ∧ Rel (fun a : List (List Ct) × List (List Ct) => a.1) r (sprd x1 f (col vl0) (col vl1)) := by
  intro f
  induction f with
  | zero =>
    intro vl0 vl1 hB hf h50 hv hz
    obtain rfl : vl1 = [] := List.length_eq_zero_iff.1 (by omega)
    exact ⟨.inl (vl0, []), iter_inr (by simp [psp_L0_step]), .inl ⟨_, rfl, rfl⟩⟩
  | succ f ih =>
    intro vl0 vl1 hB hf h50 hv hz
    by_cases hp : 0 < vl1.length
    · have hd := col_cons_at hp
      rw [List.drop_zero, Nat.zero_add] at hd
      have hr := hB (rd vl1 0 0).int (by rw [hd]; exact List.mem_cons_self ..)
      have hBt : Byt ((col vl1).drop 1) := hB.drop 1
      generalize hh : (rd vl1 0 0).int = h at *
      have q0 : (vl1.length : Int) > 0 := by omega
      have q1 : (0 : Int) ≤ 0 ∧ (0 : Int) < (vl1.length : Int) := by omega
      have w0 : IntKind.i64.wrap h = h := wrap_in (by omega) (by omega)
      have w1 : IntKind.i64.wrap ((vl1.length : Int) - 1) = (vl1.length : Int) - 1 := wrap_in (by omega) (by omega)
      have w2 : IntKind.i64.wrap (x1 - (vl0.length : Int)) = x1 - (vl0.length : Int) := wrap_in (by omega) (by omega)
      have ht : ((col vl1).drop 1).length = vl1.length - 1 := by simp [col_length]
      rw [hd, sprd]
      by_cases h128 : 128 ≤ h
      · rw [if_pos h128]
        have g0 : h ≥ 128 := h128
        by_cases ha : vl1.length = 1
        · rw [if_pos (by omega)]
          refine ⟨.inr 9, iter_inr ?_, .inr ⟨9, rfl, rfl⟩⟩
          have q2 : (vl1.length : Int) - 1 < 1 := by omega
          simp only [psp_L0_step, Int.toNat_zero, hh, w0, w1, cond_dec q0, cond_dec q1, cond_dec g0, cond_true, cond_dec q2]
        · rw [if_neg (by omega)]
          have q2 : ¬ (vl1.length : Int) - 1 < 1 := by omega
          have w3 : IntKind.i64.wrap (h - 126) = h - 126 := wrap_in (by omega) (by omega)
          by_cases hb : h - 126 > x1 - (vl0.length : Int)
          · rw [if_pos (by rw [col_length]; exact hb)]
            refine ⟨.inr 8, iter_inr ?_, .inr ⟨8, rfl, rfl⟩⟩
            simp only [psp_L0_step, Int.toNat_zero, hh, w0, w1, w2, w3, cond_dec q0, cond_dec q1, cond_dec g0, cond_true, cond_not q2, cond_dec hb]
          · rw [if_neg (by rw [col_length]; exact hb)]
            obtain ⟨wl', i1, i2, i3⟩ := psp3_run (x0 := x0) (x1 := x1) (vl0 := vl0) hh h128 hr.2 (by omega) h50 (n := (h - 126).toNat) (by omega) (h - 126).toNat 0 1000 vl0 (by omega) (by omega) (by omega)
            have e : ((0 : Nat) : Int) = (0 : Int) := rfl
            rw [e] at i1
            have p1 : psp_L3_p x0 x1 vl0 vl1 = true := by unfold psp_L3_p; rw [i1]; rfl
            have p2 : (psp_L3_v x0 x1 vl0 vl1).2 = wl' := by unfold psp_L3_v loopRes; rw [i1]; rfl
            have w4 : IntKind.i64.wrap (1 + 1) = (2 : Int) := rfl
            have q3 : (0 : Int) ≤ 2 ∧ (2 : Int) ≤ (vl1.length : Int) ∧ (vl1.length : Int) ≤ (vl1.length : Int) := by omega
            have hst : psp_L0_step x0 x1 (vl0, vl1) = some (.inl (wl', partOf vl1 2 (vl1.length : Int))) := by
              simp only [psp_L0_step, Int.toNat_zero, hh, w0, w1, w2, w3, cond_dec q0, cond_dec q1, cond_dec g0, cond_true, cond_not q2, cond_not hb, p1, p2, w4, cond_dec q3]
            have e2 : col (partOf vl1 2 (vl1.length : Int)) = ((col vl1).drop 1).drop 1 := by
              rw [col_part, List.drop_drop, List.take_of_length_le]
              · rfl
              · simp [col_length]
            have e3 : (partOf vl1 2 (vl1.length : Int)).length = vl1.length - 2 := by simp [partOf]
            obtain ⟨r, r1, r2⟩ := ih wl' (partOf vl1 2 (vl1.length : Int)) (by rw [e2]; exact hBt.drop 1) (by omega) (by omega) (by omega) (by omega)
            refine ⟨r, by rw [iter_inl hst]; exact r1, ?_⟩
            rw [i2, e2] at r2
            rw [show ((col vl1).drop 1).getD 0 0 = (col vl1).getD 1 0 by simp [List.getD]]
            exact r2
      · rw [if_neg h128]
        have g0 : ¬ h ≥ 128 := h128
        have w3 : IntKind.i64.wrap (h + 1) = h + 1 := wrap_in (by omega) (by omega)
        by_cases ha : (vl1.length : Int) - 1 < h + 1
        · rw [if_pos (by omega)]
          refine ⟨.inr 9, iter_inr ?_, .inr ⟨9, rfl, rfl⟩⟩
          simp only [psp_L0_step, Int.toNat_zero, hh, w0, w1, w3, cond_dec q0, cond_dec q1, cond_not g0, cond_false, cond_dec ha]
        · rw [if_neg (by omega)]
          by_cases hb : h + 1 > x1 - (vl0.length : Int)
          · rw [if_pos (by rw [col_length]; exact hb)]
            refine ⟨.inr 8, iter_inr ?_, .inr ⟨8, rfl, rfl⟩⟩
            simp only [psp_L0_step, Int.toNat_zero, hh, w0, w1, w2, w3, cond_dec q0, cond_dec q1, cond_not g0, cond_false, cond_not ha, cond_dec hb]
          · rw [if_neg (by rw [col_length]; exact hb)]
            obtain ⟨wl', i1, i2, i3⟩ := psp3_plain (x0 := x0) (x1 := x1) (vl0 := vl0) hh h128 hr.1 h50 (n := (h + 1).toNat) (by omega) (by omega) (h + 1).toNat 0 1000 vl0 (by omega) (by omega) (by omega)
            have e : ((0 : Nat) : Int) = (0 : Int) := rfl
            rw [e] at i1
            have p1 : psp_L3_p x0 x1 vl0 vl1 = true := by unfold psp_L3_p; rw [i1]; rfl
            have p2 : (psp_L3_v x0 x1 vl0 vl1).2 = wl' := by unfold psp_L3_v loopRes; rw [i1]; rfl
            have w4 : IntKind.i64.wrap (1 + (h + 1)) = h + 2 := by rw [wrap_in (by omega) (by omega)]; omega
            have q3 : (0 : Int) ≤ h + 2 ∧ h + 2 ≤ (vl1.length : Int) ∧ (vl1.length : Int) ≤ (vl1.length : Int) := by omega
            have hst : psp_L0_step x0 x1 (vl0, vl1) = some (.inl (wl', partOf vl1 (h + 2) (vl1.length : Int))) := by
              simp only [psp_L0_step, Int.toNat_zero, hh, w0, w1, w2, w3, cond_dec q0, cond_dec q1, cond_not g0, cond_false, cond_not ha, cond_not hb, p1, p2, w4, cond_true, cond_dec q3]
            have e2 : col (partOf vl1 (h + 2) (vl1.length : Int)) = ((col vl1).drop 1).drop (h + 1).toNat := by
              rw [col_part, List.drop_drop, List.take_of_length_le]
              · congr 1; omega
              · simp [col_length]
            have e3 : (partOf vl1 (h + 2) (vl1.length : Int)).length = vl1.length - (h + 2).toNat := by simp [partOf]
            obtain ⟨r, r1, r2⟩ := ih wl' (partOf vl1 (h + 2) (vl1.length : Int)) (by rw [e2]; exact hBt.drop _) (by omega) (by omega) (by omega) (by omega)
            refine ⟨r, by rw [iter_inl hst]; exact r1, ?_⟩
            rw [i2, e2] at r2
            exact r2
    · obtain rfl : vl1 = [] := List.length_eq_zero_iff.1 (by omega)
      exact ⟨.inl (vl0, []), iter_inr (by simp [psp_L0_step]), .inl ⟨_, rfl, by rw [col_nil, sprd_nil]⟩⟩
def sprO : List Int ⊕ Int → Int × List Int
  | .inl o => (0, o)
  | .inr e => (e, [])
theorem psp_is {x0 : List (List Ct)} {x1 : Int} (hx0 : -9223372036854775808 ≤ x1) (hx1 : x1 ≤ 9223372036854775807) (hl : x0.length ≤ 50000) (hB : Byt (col x0)) :
    (psp_res x0 x1).isSome = true ∧ (psp_v x0 x1).1 = (sprO (sprd x1 x0.length [] (col x0))).1 ∧ col (psp_v x0 x1).2 = (sprO (sprd x1 x0.length [] (col x0))).2 := by
  obtain ⟨r, r1, r2⟩ := psp_it (x0 := x0) hx0 hx1 x0.length [] x0 hB (by omega) hl (by simp; omega) (.inl rfl)
  have p1 : psp_L0_p x0 x1 = true := by unfold psp_L0_p; rw [r1]; rfl
  have p2 : psp_L0_v x0 x1 = r := by unfold psp_L0_v; rw [r1]; rfl
  have e : psp_v x0 x1 = (psp_res x0 x1).getD default := rfl
  rw [col_nil] at r2
  rcases r2 with ⟨a, rfl, hs⟩ | ⟨k, rfl, hs⟩
  · have : psp_res x0 x1 = some (0, a.1) := by unfold psp_res; rw [p1, p2]; rfl
    rw [e, this, hs]; exact ⟨rfl, rfl, rfl⟩
  · have : psp_res x0 x1 = some (k, []) := by unfold psp_res; rw [p1, p2]; rfl
    rw [e, this, hs]; exact ⟨rfl, rfl, rfl⟩
end Go.Proofs.Ytcpbiijegbbafaa
