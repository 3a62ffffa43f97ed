/- The document's spread and the pieces in plain numbers: what their loops answer. No condition. -/
import Derived.Test.YtikhlpbloffidaaPackS
import Derived.Test.YtikhlpbloffidaaPackSpreadsT
import Derived.Test.YtikhlpbloffidaaOpen
set_option linter.unusedVariables false
set_option linter.unusedSimpArgs false
namespace Go.Proofs.Ytikhlpbloffidaa
open Go.RowKit

theorem rsp2_it {x0 : List (List Ct)} {x1 : Int} {vl0 : List (List Ct)} {p : Nat} {h : Int} (hh : (rd x0 p 0).int = h) (h0 : 128 ≤ h) (h1 : h < 256) (hl : p + 1 < x0.length) (hl1 : x0.length ≤ 50000) {n : Nat} (hn : (n : Int) = h - 126) :
    ∀ (d i fuel : Nat) (wl : List (List Ct)), i + d = n → d < fuel → wl.length ≤ i → ∃ wl', iter (rsp_L2_step x0 x1 (p : Int) vl0) fuel ((i : Int), wl) = some ((n : Int), wl') ∧ col wl' = col wl ++ List.replicate d ((col x0).getD (p + 1) 0) ∧ wl'.length = wl.length + d := by
  have w0 : IntKind.i64.wrap h = h := wrap_in (by omega) (by omega)
  have w1 : IntKind.i64.wrap (h - 126) = (n : Int) := by rw [wrap_in (by omega) (by omega)]; omega
  have w2 : IntKind.i64.wrap ((p : Int) + 1) = ((p + 1 : Nat) : Int) := by rw [wrap_in (by omega) (by omega)]; omega
  have q1 : (0 : Int) ≤ ((p + 1 : Nat) : Int) ∧ ((p + 1 : Nat) : Int) < (x0.length : Int) := by omega
  intro d
  induction d with
  | zero =>
    intro i fuel wl hi hf hw
    obtain ⟨fuel, rfl⟩ : ∃ k, fuel = k + 1 := ⟨fuel - 1, by omega⟩
    obtain rfl : i = n := by omega
    refine ⟨wl, iter_inr ?_, by simp, rfl⟩
    have q : ¬ ((i : Int) < (i : Int)) := by omega
    simp only [rsp_L2_step, Int.toNat_natCast, hh, w0, w1, cond_not q]
  | succ d ih =>
    intro i fuel wl hi hf hw
    obtain ⟨fuel, rfl⟩ : ∃ k, fuel = k + 1 := ⟨fuel - 1, by omega⟩
    have q : ((i : Int) < (n : Int)) := by omega
    have w3 : IntKind.i64.wrap ((i : Int) + 1) = ((i + 1 : Nat) : Int) := by rw [wrap_in (by omega) (by omega)]; omega
    have hst : rsp_L2_step x0 x1 (p : Int) vl0 ((i : Int), wl) = some (.inl (((i + 1 : Nat) : Int), wl ++ [[Ct.i (rd x0 (p + 1) 0).int]])) := by
      simp only [rsp_L2_step, Int.toNat_natCast, hh, w0, w1, cond_dec q, w2, cond_dec q1, w3]
      rw [cond_dec]
      simp only [List.length_cons, List.length_nil]; omega
    obtain ⟨wl', i1, i2, i3⟩ := ih (i + 1) fuel (wl ++ [[Ct.i (rd x0 (p + 1) 0).int]]) (by omega) (by omega) (by simp; omega)
    refine ⟨wl', by rw [iter_inl hst]; exact i1, ?_, by rw [i3]; simp; omega⟩
    rw [i2, col_app, col_cons, col_nil, rd_col, List.replicate_succ]
    simp [Ct.int]
theorem rsp_it {x0 : List (List Ct)} {x1 : Int} (hx0 : -9223372036854775808 ≤ x1) (hx1 : x1 ≤ 9223372036854775807) (hB : Byt (col x0)) (h50 : x0.length ≤ 50000) :
    ∀ (f p : Nat) (vl0 : List (List Ct)), p ≤ x0.length → x0.length - p ≤ f → vl0.length + 130 * (x0.length - p) ≤ 10000000 →
      ∃ r, iter (rsp_L0_step x0 x1) (f + 1) ((p : Int), vl0) = some r ∧ Rel (fun a : Int × List (List Ct) => a.2) r (sprd x1 f (col vl0) ((col x0).drop p)) := by
  intro f
  induction f with
  | zero =>
    intro p vl0 hp hf hv
    have q : ¬ ((p : Int) < (x0.length : Int)) := by omega
    exact ⟨.inl (p, vl0), iter_inr (by simp only [rsp_L0_step, cond_not q]), .inl ⟨_, rfl, rfl⟩⟩
  | succ f ih =>
    intro p vl0 hp' hf hv
    by_cases hp : p < x0.length
    · have hd := col_cons_at hp
      have hr := hB (rd x0 p 0).int (List.mem_of_mem_drop (by rw [hd]; exact List.mem_cons_self ..))
      generalize hh : (rd x0 p 0).int = h at *
      have q0 : (p : Int) < (x0.length : Int) := by omega
      have q1 : (0 : Int) ≤ (p : Int) ∧ (p : Int) < (x0.length : Int) := by omega
      have w0 : IntKind.i64.wrap h = h := wrap_in (by omega) (by omega)
      have w1 : IntKind.i64.wrap ((p : Int) + 1) = ((p + 1 : Nat) : Int) := by rw [wrap_in (by omega) (by omega)]; omega
      have w2 : IntKind.i64.wrap ((p : Int) + 2) = ((p + 2 : Nat) : Int) := by rw [wrap_in (by omega) (by omega)]; omega
      have ht : ((col x0).drop (p + 1)).length = x0.length - (p + 1) := by simp [col_length]
      rw [hd, sprd]
      by_cases h128 : 128 ≤ h
      · rw [if_pos h128]
        have g0 : ¬ h < 128 := by omega
        by_cases ha : x0.length = p + 1
        · rw [if_pos (by omega)]
          refine ⟨.inr 9, iter_inr ?_, .inr ⟨9, rfl, rfl⟩⟩
          have q2 : ((p + 2 : Nat) : Int) > (x0.length : Int) := by omega
          simp only [rsp_L0_step, Int.toNat_natCast, hh, w0, w1, w2, cond_dec q0, cond_dec q1, cond_not g0, cond_dec q2]
        · rw [if_neg (by omega)]
          have q2 : ¬ ((p + 2 : Nat) : Int) > (x0.length : Int) := by omega
          obtain ⟨wl', i1, i2, i3⟩ := rsp2_it (x0 := x0) (x1 := x1) (vl0 := vl0) hh h128 hr.2 (by omega) h50 (n := (h - 126).toNat) (by omega) (h - 126).toNat 0 1000 [] (by omega) (by omega) (by simp)
          have e : ((0 : Nat) : Int) = (0 : Int) := rfl
          rw [e] at i1
          rw [List.length_nil, Nat.zero_add] at i3
          have p1 : rsp_L2_p x0 x1 (p : Int) vl0 = true := by unfold rsp_L2_p; rw [i1]; rfl
          have p2 : (rsp_L2_v x0 x1 (p : Int) vl0).2 = wl' := by unfold rsp_L2_v loopRes; rw [i1]; rfl
          have w3 : IntKind.i64.wrap ((vl0.length : Int) + (wl'.length : Int)) = (vl0.length : Int) + (wl'.length : Int) := wrap_in (by omega) (by omega)
          by_cases hb : h - 126 > x1 - (vl0.length : Int)
          · rw [if_pos (by rw [col_length]; exact hb)]
            refine ⟨.inr 8, iter_inr ?_, .inr ⟨8, rfl, rfl⟩⟩
            by_cases hc : x1 < 0
            · simp only [rsp_L0_step, Int.toNat_natCast, hh, w0, w1, w2, cond_dec q0, cond_dec q1, cond_not g0, cond_not q2, p1, cond_true, cond_dec hc]
            · have q3 : (vl0.length : Int) + (wl'.length : Int) > x1 := by omega
              simp only [rsp_L0_step, Int.toNat_natCast, hh, w0, w1, w2, cond_dec q0, cond_dec q1, cond_not g0, cond_not q2, p1, p2, cond_true, cond_not hc, w3, cond_dec q3]
          · rw [if_neg (by rw [col_length]; exact hb)]
            have hc : ¬ x1 < 0 := by omega
            have q3 : ¬ (vl0.length : Int) + (wl'.length : Int) > x1 := by omega
            have hst : rsp_L0_step x0 x1 ((p : Int), vl0) = some (.inl (((p + 2 : Nat) : Int), vl0 ++ wl')) := by
              simp only [rsp_L0_step, Int.toNat_natCast, hh, w0, w1, w2, cond_dec q0, cond_dec q1, cond_not g0, cond_not q2, p1, p2, cond_true, cond_not hc, w3, cond_not q3]
              rw [cond_dec]
              omega
            obtain ⟨r, r1, r2⟩ := ih (p + 2) (vl0 ++ wl') (by omega) (by omega) (by simp; omega)
            refine ⟨r, by rw [iter_inl hst]; exact r1, ?_⟩
            rw [col_app, i2, col_nil, List.nil_append] at r2
            rw [show ((col x0).drop (p + 1)).getD 0 0 = (col x0).getD (p + 1) 0 by simp [List.getD], List.drop_drop]
            exact r2
      · rw [if_neg h128]
        have g0 : h < 128 := by omega
        have w3 : IntKind.i64.wrap (((p + 1 : Nat) : Int) + h) = ((p + 1 : Nat) : Int) + h := wrap_in (by omega) (by omega)
        have w4 : IntKind.i64.wrap (((p + 1 : Nat) : Int) + h + 1) = ((p + 1 : Nat) : Int) + h + 1 := wrap_in (by omega) (by omega)
        by_cases ha : ((p + 1 : Nat) : Int) + h + 1 > (x0.length : Int)
        · rw [if_pos (by omega)]
          refine ⟨.inr 9, iter_inr ?_, .inr ⟨9, rfl, rfl⟩⟩
          simp only [rsp_L0_step, Int.toNat_natCast, hh, w0, w1, w2, w3, w4, cond_dec q0, cond_dec q1, cond_dec g0, cond_dec ha]
        · rw [if_neg (by omega)]
          have w5 : IntKind.i64.wrap (((p + 2 : Nat) : Int) + h) = ((p + 2 + h.toNat : Nat) : Int) := by rw [wrap_in (by omega) (by omega)]; omega
          have q2 : (0 : Int) ≤ ((p + 1 : Nat) : Int) ∧ ((p + 1 : Nat) : Int) ≤ ((p + 2 + h.toNat : Nat) : Int) ∧ ((p + 2 + h.toNat : Nat) : Int) ≤ (x0.length : Int) := by omega
          have hpl : (partOf x0 ((p + 1 : Nat) : Int) ((p + 2 + h.toNat : Nat) : Int)).length = h.toNat + 1 := by rw [part_length (by omega)]; omega
          have hpc : col (partOf x0 ((p + 1 : Nat) : Int) ((p + 2 + h.toNat : Nat) : Int)) = ((col x0).drop (p + 1)).take (h + 1).toNat := by
            rw [col_part]; simp only [Int.toNat_natCast]; congr 1; omega
          generalize hwl : partOf x0 ((p + 1 : Nat) : Int) ((p + 2 + h.toNat : Nat) : Int) = wl at *
          have q4 : 0 + wl.length ≤ 9223372036854775807 ∧ (0 + wl.length) * 1 ≤ 140737488355328 := by omega
          have w6 : IntKind.i64.wrap ((vl0.length : Int) + (wl.length : Int)) = (vl0.length : Int) + (wl.length : Int) := wrap_in (by omega) (by omega)
          by_cases hb : h + 1 > x1 - (vl0.length : Int)
          · rw [if_pos (by rw [col_length]; exact hb)]
            refine ⟨.inr 8, iter_inr ?_, .inr ⟨8, rfl, rfl⟩⟩
            by_cases hc : x1 < 0
            · simp only [rsp_L0_step, Int.toNat_natCast, hh, w0, w1, w2, w3, w4, w5, cond_dec q0, cond_dec q1, cond_dec g0, cond_not ha, cond_dec q2, hwl, cond_dec q4, List.nil_append, cond_dec hc]
            · have q3 : (vl0.length : Int) + (wl.length : Int) > x1 := by omega
              simp only [rsp_L0_step, Int.toNat_natCast, hh, w0, w1, w2, w3, w4, w5, cond_dec q0, cond_dec q1, cond_dec g0, cond_not ha, cond_dec q2, hwl, cond_dec q4, List.nil_append, cond_not hc, w6, cond_dec q3]
          · rw [if_neg (by rw [col_length]; exact hb)]
            have hc : ¬ x1 < 0 := by omega
            have q3 : ¬ (vl0.length : Int) + (wl.length : Int) > x1 := by omega
            have hst : rsp_L0_step x0 x1 ((p : Int), vl0) = some (.inl (((p + 2 + h.toNat : Nat) : Int), vl0 ++ wl)) := by
              simp only [rsp_L0_step, Int.toNat_natCast, hh, w0, w1, w2, w3, w4, w5, cond_dec q0, cond_dec q1, cond_dec g0, cond_not ha, cond_dec q2, hwl, cond_dec q4, List.nil_append, cond_not hc, w6, cond_not q3]
              rw [cond_dec]
              omega
            obtain ⟨r, r1, r2⟩ := ih (p + 2 + h.toNat) (vl0 ++ wl) (by omega) (by omega) (by simp; omega)
            refine ⟨r, by rw [iter_inl hst]; exact r1, ?_⟩
            rw [col_app, hpc] at r2
            rw [List.drop_drop, show p + 1 + (h + 1).toNat = p + 2 + h.toNat by omega]
            exact r2
    · have q : ¬ ((p : Int) < (x0.length : Int)) := by omega
      exact ⟨.inl (p, vl0), iter_inr (by simp only [rsp_L0_step, cond_not q]), .inl ⟨_, rfl, by rw [List.drop_eq_nil_of_le (by rw [col_length]; omega), sprd_nil]⟩⟩
theorem rsp_is {x0 : List (List Ct)} {x1 : Int} (hx0 : -9223372036854775808 ≤ x1) (hx1 : x1 ≤ 9223372036854775807) (hl : x0.length ≤ 50000) (hB : Byt (col x0)) :
    (rsp_res x0 x1).isSome = true ∧ (rsp_v x0 x1).1 = (sprO (sprd x1 x0.length [] (col x0))).1 ∧ col (rsp_v x0 x1).2 = (sprO (sprd x1 x0.length [] (col x0))).2 := by
  obtain ⟨r, r1, r2⟩ := rsp_it (x0 := x0) hx0 hx1 hB hl x0.length 0 [] (by omega) (by omega) (by simp; omega)
  have e0 : ((0 : Nat) : Int) = (0 : Int) := rfl
  rw [e0] at r1
  have p1 : rsp_L0_p x0 x1 = true := by unfold rsp_L0_p; rw [r1]; rfl
  have p2 : rsp_L0_v x0 x1 = r := by unfold rsp_L0_v; rw [r1]; rfl
  have e : rsp_v x0 x1 = (rsp_res x0 x1).getD default := rfl
  rw [col_nil, List.drop_zero] at r2
  rcases r2 with ⟨a, rfl, hs⟩ | ⟨k, rfl, hs⟩
  · have : rsp_res x0 x1 = some (0, a.2) := by unfold rsp_res; rw [p1, p2]; rfl
    rw [e, this, hs]; exact ⟨rfl, rfl, rfl⟩
  · have : rsp_res x0 x1 = some (k, []) := by unfold rsp_res; rw [p1, p2]; rfl
    rw [e, this, hs]; exact ⟨rfl, rfl, rfl⟩

def pcs : Nat → Int → Int → List Int → (Int × Int) ⊕ Unit
  | 0, r, p, _ => .inl (r, p)
  | _ + 1, r, p, [] => .inl (r, p)
  | f + 1, r, p, h :: t =>
    if 128 ≤ h then (if t.length < 1 then .inr () else pcs f (r + 1) p (t.drop 1))
    else if (t.length : Int) < h + 1 then .inr () else pcs f r (p + 1) (t.drop (h + 1).toNat)
theorem pcs_nil {f : Nat} {r p : Int} : pcs f r p [] = .inl (r, p) := by cases f <;> rfl
def RelP {α : Type} (g : α → Int × Int) (r : α ⊕ Unit) (s : (Int × Int) ⊕ Unit) : Prop := (∃ a, r = .inl a ∧ s = .inl (g a)) ∨ (r = .inr () ∧ s = .inr ())
theorem ppcs_it {x0 : List (List Ct)} :
    ∀ (f : Nat) (r p : Int) (vl : List (List Ct)), Byt (col vl) → vl.length ≤ f → vl.length ≤ 50000 → 0 ≤ r → 0 ≤ p → r + p + vl.length ≤ 50000 →
      ∃ o, iter (ppcs_L0_step x0) (f + 1) (r, p, vl) = some o ∧ RelP (fun a : Int × Int × List (List Ct) => (a.1, a.2.1)) o (pcs f r p (col vl)) := by
  intro f
  induction f with
  | zero =>
    intro r p vl hB hf h50 hr hp hs
    obtain rfl : vl = [] := List.length_eq_zero_iff.1 (by omega)
    exact ⟨.inl (r, p, []), iter_inr (by simp [ppcs_L0_step]), .inl ⟨_, rfl, rfl⟩⟩
  | succ f ih =>
    intro r p vl hB hf h50 hr hp hs
    by_cases hpp : 0 < vl.length
    · have hd := col_cons_at hpp
      rw [List.drop_zero, Nat.zero_add] at hd
      have hrr := hB (rd vl 0 0).int (by rw [hd]; exact List.mem_cons_self ..)
      have hBt : Byt ((col vl).drop 1) := hB.drop 1
      generalize hh : (rd vl 0 0).int = h at *
      have q0 : (vl.length : Int) > 0 := by omega
      have q1 : (0 : Int) ≤ 0 ∧ (0 : Int) < (vl.length : Int) := by omega
      have w0 : IntKind.i64.wrap h = h := wrap_in (by omega) (by omega)
      have w1 : IntKind.i64.wrap ((vl.length : Int) - 1) = (vl.length : Int) - 1 := wrap_in (by omega) (by omega)
      have w2 : IntKind.i64.wrap (r + 1) = r + 1 := wrap_in (by omega) (by omega)
      have w3 : IntKind.i64.wrap (p + 1) = p + 1 := wrap_in (by omega) (by omega)
      have ht : ((col vl).drop 1).length = vl.length - 1 := by simp [col_length]
      rw [hd, pcs]
      by_cases h128 : 128 ≤ h
      · rw [if_pos h128]
        have g0 : h ≥ 128 := h128
        by_cases ha : vl.length = 1
        · rw [if_pos (by omega)]
          refine ⟨.inr (), iter_inr ?_, .inr ⟨rfl, rfl⟩⟩
          have q2 : (vl.length : Int) - 1 < 1 := by omega
          simp only [ppcs_L0_step, Int.toNat_zero, hh, w0, w1, cond_dec q0, cond_dec q1, cond_dec g0, cond_dec q2]
        · rw [if_neg (by omega)]
          have q2 : ¬ (vl.length : Int) - 1 < 1 := by omega
          have q3 : (0 : Int) ≤ 2 ∧ (2 : Int) ≤ (vl.length : Int) ∧ (vl.length : Int) ≤ (vl.length : Int) := by omega
          have hst : ppcs_L0_step x0 (r, p, vl) = some (.inl (r + 1, p, partOf vl 2 (vl.length : Int))) := by
            simp only [ppcs_L0_step, Int.toNat_zero, hh, w0, w1, w2, cond_dec q0, cond_dec q1, cond_dec g0, cond_not q2, cond_dec q3]
          have e2 : col (partOf vl 2 (vl.length : Int)) = ((col vl).drop 1).drop 1 := by
            rw [col_part, List.drop_drop, List.take_of_length_le]
            · rfl
            · simp [col_length]
          have e3 : (partOf vl 2 (vl.length : Int)).length = vl.length - 2 := by simp [partOf]
          obtain ⟨o, r1, r2⟩ := ih (r + 1) p (partOf vl 2 (vl.length : Int)) (by rw [e2]; exact hBt.drop 1) (by omega) (by omega) (by omega) (by omega) (by omega)
          rw [e2] at r2
          exact ⟨o, by rw [iter_inl hst]; exact r1, r2⟩
      · rw [if_neg h128]
        have g0 : ¬ h ≥ 128 := h128
        have w4 : IntKind.i64.wrap (h + 1) = h + 1 := wrap_in (by omega) (by omega)
        have w5 : IntKind.i64.wrap (1 + (h + 1)) = h + 2 := by rw [wrap_in (by omega) (by omega)]; omega
        by_cases ha : (vl.length : Int) - 1 < h + 1
        · rw [if_pos (by omega)]
          refine ⟨.inr (), iter_inr ?_, .inr ⟨rfl, rfl⟩⟩
          simp only [ppcs_L0_step, Int.toNat_zero, hh, w0, w1, w4, cond_dec q0, cond_dec q1, cond_not g0, cond_dec ha]
        · rw [if_neg (by omega)]
          have q3 : (0 : Int) ≤ h + 2 ∧ h + 2 ≤ (vl.length : Int) ∧ (vl.length : Int) ≤ (vl.length : Int) := by omega
          have hst : ppcs_L0_step x0 (r, p, vl) = some (.inl (r, p + 1, partOf vl (h + 2) (vl.length : Int))) := by
            simp only [ppcs_L0_step, Int.toNat_zero, hh, w0, w1, w3, w4, w5, cond_dec q0, cond_dec q1, cond_not g0, cond_not ha, cond_dec q3]
          have e2 : col (partOf vl (h + 2) (vl.length : Int)) = ((col vl).drop 1).drop (h + 1).toNat := by
            rw [col_part, List.drop_drop, List.take_of_length_le]
            · congr 1; omega
            · simp [col_length]
          have e3 : (partOf vl (h + 2) (vl.length : Int)).length = vl.length - (h + 2).toNat := by simp [partOf]
          obtain ⟨o, r1, r2⟩ := ih r (p + 1) (partOf vl (h + 2) (vl.length : Int)) (by rw [e2]; exact hBt.drop _) (by omega) (by omega) (by omega) (by omega) (by omega)
          rw [e2] at r2
          exact ⟨o, by rw [iter_inl hst]; exact r1, r2⟩
    · obtain rfl : vl = [] := List.length_eq_zero_iff.1 (by omega)
      exact ⟨.inl (r, p, []), iter_inr (by simp [ppcs_L0_step]), .inl ⟨_, rfl, by rw [col_nil, pcs_nil]⟩⟩
theorem rpcs_it {x0 : List (List Ct)} (hB : Byt (col x0)) (h50 : x0.length ≤ 50000) :
    ∀ (f : Nat) (r p : Int) (i : Nat), i ≤ x0.length → x0.length - i ≤ f → 0 ≤ r → 0 ≤ p → r + p ≤ i →
      ∃ o, iter (rpcs_L0_step x0) (f + 1) (r, p, (i : Int)) = some o ∧ RelP (fun a : Int × Int × Int => (a.1, a.2.1)) o (pcs f r p ((col x0).drop i)) := by
  intro f
  induction f with
  | zero =>
    intro r p i hi hf hr hp hs
    have q : ¬ ((i : Int) < (x0.length : Int)) := by omega
    exact ⟨.inl (r, p, i), iter_inr (by simp only [rpcs_L0_step, cond_not q]), .inl ⟨_, rfl, rfl⟩⟩
  | succ f ih =>
    intro r p i hi hf hr hp hs
    by_cases hpp : i < x0.length
    · have hd := col_cons_at hpp
      have hrr := hB (rd x0 i 0).int (List.mem_of_mem_drop (by rw [hd]; exact List.mem_cons_self ..))
      generalize hh : (rd x0 i 0).int = h at *
      have q0 : (i : Int) < (x0.length : Int) := by omega
      have q1 : (0 : Int) ≤ (i : Int) ∧ (i : Int) < (x0.length : Int) := by omega
      have w0 : IntKind.i64.wrap h = h := wrap_in (by omega) (by omega)
      have w1 : IntKind.i64.wrap ((i : Int) + 2) = ((i + 2 : Nat) : Int) := by rw [wrap_in (by omega) (by omega)]; omega
      have w2 : IntKind.i64.wrap (r + 1) = r + 1 := wrap_in (by omega) (by omega)
      have w3 : IntKind.i64.wrap (p + 1) = p + 1 := wrap_in (by omega) (by omega)
      have ht : ((col x0).drop (i + 1)).length = x0.length - (i + 1) := by simp [col_length]
      rw [hd, pcs]
      by_cases h128 : 128 ≤ h
      · rw [if_pos h128]
        have g0 : h ≥ 128 := h128
        by_cases ha : x0.length = i + 1
        · rw [if_pos (by omega)]
          refine ⟨.inr (), iter_inr ?_, .inr ⟨rfl, rfl⟩⟩
          have q2 : ((i + 2 : Nat) : Int) > (x0.length : Int) := by omega
          simp only [rpcs_L0_step, Int.toNat_natCast, hh, w1, cond_dec q0, cond_dec q1, cond_dec g0, cond_dec q2]
        · rw [if_neg (by omega)]
          have q2 : ¬ ((i + 2 : Nat) : Int) > (x0.length : Int) := by omega
          have hst : rpcs_L0_step x0 (r, p, (i : Int)) = some (.inl (r + 1, p, ((i + 2 : Nat) : Int))) := by
            simp only [rpcs_L0_step, Int.toNat_natCast, hh, w1, w2, cond_dec q0, cond_dec q1, cond_dec g0, cond_not q2]
          obtain ⟨o, r1, r2⟩ := ih (r + 1) p (i + 2) (by omega) (by omega) (by omega) (by omega) (by omega)
          refine ⟨o, by rw [iter_inl hst]; exact r1, ?_⟩
          rw [List.drop_drop]; exact r2
      · rw [if_neg h128]
        have g0 : ¬ h ≥ 128 := h128
        have w4 : IntKind.i64.wrap (((i + 2 : Nat) : Int) + h) = ((i + 2 + h.toNat : Nat) : Int) := by rw [wrap_in (by omega) (by omega)]; omega
        by_cases ha : (x0.length : Int) - (i + 1) < h + 1
        · rw [if_pos (by omega)]
          refine ⟨.inr (), iter_inr ?_, .inr ⟨rfl, rfl⟩⟩
          have q2 : ((i + 2 + h.toNat : Nat) : Int) > (x0.length : Int) := by omega
          simp only [rpcs_L0_step, Int.toNat_natCast, hh, w0, w1, w4, cond_dec q0, cond_dec q1, cond_not g0, cond_dec q2]
        · rw [if_neg (by omega)]
          have q2 : ¬ ((i + 2 + h.toNat : Nat) : Int) > (x0.length : Int) := by omega
          have hst : rpcs_L0_step x0 (r, p, (i : Int)) = some (.inl (r, p + 1, ((i + 2 + h.toNat : Nat) : Int))) := by
            simp only [rpcs_L0_step, Int.toNat_natCast, hh, w0, w1, w3, w4, cond_dec q0, cond_dec q1, cond_not g0, cond_not q2]
          obtain ⟨o, r1, r2⟩ := ih r (p + 1) (i + 2 + h.toNat) (by omega) (by omega) (by omega) (by omega) (by omega)
          refine ⟨o, by rw [iter_inl hst]; exact r1, ?_⟩
          rw [List.drop_drop, show i + 1 + (h + 1).toNat = i + 2 + h.toNat by omega]; exact r2
    · have q : ¬ ((i : Int) < (x0.length : Int)) := by omega
      exact ⟨.inl (r, p, i), iter_inr (by simp only [rpcs_L0_step, cond_not q]), .inl ⟨_, rfl, by rw [List.drop_eq_nil_of_le (by rw [col_length]; omega), pcs_nil]⟩⟩
def pcsO : (Int × Int) ⊕ Unit → Int × Int × Int
  | .inl o => (o.1, o.2, 0)
  | .inr _ => (0, 0, 9)
theorem ppcs_is {x0 : List (List Ct)} (hl : x0.length ≤ 50000) (hB : Byt (col x0)) : ppcs_res x0 = some (pcsO (pcs x0.length 0 0 (col x0))) := by
  obtain ⟨r, r1, r2⟩ := ppcs_it (x0 := x0) x0.length 0 0 x0 hB (by omega) hl (by omega) (by omega) (by omega)
  have p1 : ppcs_L0_p x0 = true := by unfold ppcs_L0_p; rw [r1]; rfl
  have p2 : ppcs_L0_v x0 = r := by unfold ppcs_L0_v; rw [r1]; rfl
  rcases r2 with ⟨a, rfl, hs⟩ | ⟨rfl, hs⟩ <;> (unfold ppcs_res; rw [p1, p2, hs]; rfl)
theorem rpcs_is {x0 : List (List Ct)} (hl : x0.length ≤ 50000) (hB : Byt (col x0)) : rpcs_res x0 = some (pcsO (pcs x0.length 0 0 (col x0))) := by
  obtain ⟨r, r1, r2⟩ := rpcs_it (x0 := x0) hB hl x0.length 0 0 0 (by omega) (by omega) (by omega) (by omega) (by omega)
  have e0 : ((0 : Nat) : Int) = (0 : Int) := rfl
  rw [e0] at r1
  rw [List.drop_zero] at r2
  have p1 : rpcs_L0_p x0 = true := by unfold rpcs_L0_p; rw [r1]; rfl
  have p2 : rpcs_L0_v x0 = r := by unfold rpcs_L0_v; rw [r1]; rfl
  rcases r2 with ⟨a, rfl, hs⟩ | ⟨rfl, hs⟩ <;> (unfold rpcs_res; rw [p1, p2, hs]; rfl)

theorem byt_of {x0 : List (List Ct)} (h : ∀ i, i < x0.length → ∀ (j : Nat) s, [Sh.int IntKind.u8][j]? = some s → CtWf 7 s (rd x0 i j)) : Byt (col x0) := by
  intro y hy
  obtain ⟨i, hi, rfl⟩ := List.getElem_of_mem hy
  rw [col_length] at hi
  have h1 : (Lit.int IntKind.u8 (rd x0 i 0).int).wf = true := h i hi 0 _ rfl
  have e : (col x0)[i]'(by rw [col_length]; exact hi) = (rd x0 i 0).int := by rw [rd_col]; simp [List.getD, col_length, hi]
  rw [e]
  simp [Lit.wf, IntKind.min, IntKind.max, IntKind.bits, IntKind.signed] at h1
  omega
theorem lps_true (x0 : List (List Ct)) (x1 : Int) (h0 : ∀ i, i < x0.length → ∀ (j : Nat) s, [Sh.int IntKind.u8][j]? = some s → CtWf 7 s (rd x0 i j)) (h1 : (Lit.int .i64 x1).wf = true) : lps_res x0 x1 = some true := by
  unfold lps_res
  by_cases hl : (x0.length : Int) > 20000
  · rw [cond_dec hl]
  have hB := byt_of h0
  have hx : -9223372036854775808 ≤ x1 ∧ x1 ≤ 9223372036854775807 := by
    simp [Lit.wf, IntKind.min, IntKind.max, IntKind.bits, IntKind.signed] at h1; omega
  obtain ⟨a1, a2, a3⟩ := psp_is hx.1 hx.2 (by omega) hB
  obtain ⟨b1, b2, b3⟩ := rsp_is hx.1 hx.2 (by omega) hB
  have c1 := ppcs_is (by omega) hB
  have d1 := rpcs_is (by omega) hB
  have c2 : ppcs_v x0 = pcsO (pcs x0.length 0 0 (col x0)) := by unfold ppcs_v; rw [c1]; rfl
  have d2 : rpcs_v x0 = pcsO (pcs x0.length 0 0 (col x0)) := by unfold rpcs_v; rw [d1]; rfl
  have hs : ((strOf (psp_v x0 x1).2).toList == (strOf (rsp_v x0 x1).2).toList) = true := by rw [strOf_col (a3.trans b3.symm)]; simp
  rw [cond_not hl, a1, b1, c1, d1, c2, d2, a2, b2, hs]
  simp
theorem lps_call (x0 : List (List Ct)) (x1 : Int) (h0 : ∀ i, i < x0.length → ∀ (j : Nat) s, [Sh.int IntKind.u8][j]? = some s → CtWf 7 s (rd x0 i j)) (h1 : (Lit.int .i64 x1).wf = true) : CallOk Try.prog 4 [.sv (.one (.ext 0)), .sv (.one (.val false (.int .i64 x1)))] [(0, .grid [.int .u8] x0)] 1 (lps_O true) := lps_tree (lps_true x0 x1 h0 h1)
end Go.Proofs.Ytikhlpbloffidaa
