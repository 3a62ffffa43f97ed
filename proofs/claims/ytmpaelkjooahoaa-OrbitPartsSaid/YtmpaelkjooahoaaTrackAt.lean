/- The value of a track at a time: both ways. No condition. -/
import Derived.Test.YtmpaelkjooahoaaEngOrbitT
import Derived.Test.YtmpaelkjooahoaaTrackR2
set_option linter.unusedVariables false
set_option linter.unusedSimpArgs false
namespace Go.Proofs.Ytmpaelkjooahoaa
open Go.RowKit

theorem RightT.mono {w : Int} {l : List (List Ct)} (h : RightT w l) : ∀ {i j : Nat}, i < j → j < l.length → (rd l i 0).int < (rd l j 0).int := by
  intro i j
  induction j with
  | zero => intro h1; omega
  | succ j ih =>
    intro h1 h2
    have := (h.ok (j + 1) h2).up (by omega)
    rw [Nat.add_sub_cancel] at this
    by_cases hij : i = j
    · subst hij; exact this
    · have := ih (by omega) (by omega); omega
/-- The last key that isn't behind a time. -/
structure PlaceT (l : List (List Ct)) (t p : Int) : Prop where
  p0 : -1 ≤ p
  p1 : p < l.length
  le : ∀ i : Nat, (i : Int) ≤ p → (rd l i 0).int ≤ t
  gt : ∀ i : Nat, p < i → i < l.length → t < (rd l i 0).int
theorem PlaceT.uniq {l : List (List Ct)} {t p q : Int} (h : PlaceT l t p) (k : PlaceT l t q) : p = q := by
  apply Classical.byContradiction
  intro hne
  have := h.p0; have := k.p0; have := h.p1; have := k.p1
  by_cases hlt : p < q
  · have h1 := h.gt q.toNat (by omega) (by omega)
    have h2 := k.le q.toNat (by omega)
    omega
  · have h1 := k.gt p.toNat (by omega) (by omega)
    have h2 := h.le p.toNat (by omega)
    omega
theorem rpl_it {w t : Int} {l : List (List Ct)} (h : RightT w l) : ∀ (d k : Nat) (a : Int), k + d = l.length → -1 ≤ a → a < k → (∀ i : Nat, (i : Int) ≤ a → (rd l i 0).int ≤ t) → (∀ i : Nat, a < i → i < k → t < (rd l i 0).int) →
    ∃ p c, iter (rpl_L0_step l t) (d + 1) (a, (k : Int)) = some (p, c) ∧ PlaceT l t p := by
  intro d
  induction d with
  | zero =>
    intro k a hk h0 h1 h2 h3
    have q : ¬ ((k : Int) < (l.length : Int)) := by omega
    exact ⟨a, (k : Int), iter_inr (by simp only [rpl_L0_step, cond_not q]), ⟨h0, by omega, h2, fun i hi hl => h3 i hi (by omega)⟩⟩
  | succ d ih =>
    intro k a hk h0 h1 h2 h3
    have hn := h.n1
    have q : ((k : Int) < (l.length : Int)) := by omega
    have q2 : ((0 : Int) ≤ (k : Int) ∧ (k : Int) < (l.length : Int)) := by omega
    have w1 : IntKind.i64.wrap ((k : Int) + 1) = ((k + 1 : Nat) : Int) := by rw [wrap_in (by omega) (by omega)]; omega
    by_cases c : (rd l k 0).int ≤ t
    · have hst : rpl_L0_step l t (a, (k : Int)) = some (.inl ((k : Int), ((k + 1 : Nat) : Int))) := by
        simp only [rpl_L0_step, cond_dec q, cond_dec q2, Int.toNat_natCast, w1, cond_dec c]
      rw [iter_inl hst]
      refine ih (k + 1) (k : Int) (by omega) (by omega) (by omega) (fun i hi => ?_) (fun i h4 h5 => by omega)
      by_cases hik : i = k
      · subst hik; exact c
      · have := h.mono (i := i) (j := k) (by omega) (by omega); omega
    · have hst : rpl_L0_step l t (a, (k : Int)) = some (.inl (a, ((k + 1 : Nat) : Int))) := by
        simp only [rpl_L0_step, cond_dec q, cond_dec q2, Int.toNat_natCast, w1, cond_not c]
      rw [iter_inl hst]
      refine ih (k + 1) a (by omega) h0 (by omega) h2 (fun i h4 h5 => ?_)
      by_cases hik : i = k
      · subst hik; omega
      · exact h3 i h4 (by omega)
theorem rpl_is {w t : Int} {l : List (List Ct)} (h : RightT w l) : ∃ p, (rpl_res l t = some p ∧ rpl_v l t = p) ∧ PlaceT l t p := by
  obtain ⟨p, c, h1, h2⟩ := rpl_it (t := t) h l.length 0 (-1) (by omega) (by omega) (by omega) (fun i hi => by omega) (fun i _ hi => by omega)
  rw [show ((0 : Nat) : Int) = 0 from rfl] at h1
  have p1 : rpl_L0_p l t = true := by unfold rpl_L0_p; rw [h1]; rfl
  have hr : rpl_res l t = some p := by unfold rpl_res rpl_L0_v loopRes; rw [p1, h1]; rfl
  exact ⟨p, ⟨hr, by unfold rpl_v; rw [hr]; rfl⟩, h2⟩
theorem bsf_it {w t : Int} {l : List (List Ct)} (h : RightT w l) : ∀ (d i j fuel : Nat), j = i + d → j ≤ l.length → d < fuel → (∀ k : Nat, k < i → (rd l k 0).int < t) → (∀ k : Nat, j ≤ k → k < l.length → t ≤ (rd l k 0).int) →
    ∃ (m : Nat) (c : Int), iter (bsf_L0_step l t) fuel ((i : Int), (j : Int)) = some ((m : Int), c) ∧ m ≤ l.length ∧ (∀ k : Nat, k < m → (rd l k 0).int < t) ∧ (∀ k : Nat, m ≤ k → k < l.length → t ≤ (rd l k 0).int) := by
  intro d
  induction d using Nat.strongRecOn with
  | _ d ih =>
    intro i j fuel hj hl hf h1 h2
    have hn := h.n1
    obtain ⟨fuel, rfl⟩ : ∃ k, fuel = k + 1 := ⟨fuel - 1, by omega⟩
    by_cases hd : d = 0
    · obtain rfl : j = i := by omega
      have q : ¬ ((j : Int) < (j : Int)) := by omega
      exact ⟨j, (j : Int), iter_inr (by simp only [bsf_L0_step, cond_not q]), hl, h1, h2⟩
    · have q : ((i : Int) < (j : Int)) := by omega
      have m1 : IntKind.i64.wrap ((IntKind.u64.wrap (IntKind.i64.wrap ((i : Int) + (j : Int)))).fdiv ((2 : Int) ^ min (Int.toNat (1 : Int)) IntKind.u64.bits)) = (((i + j) / 2 : Nat) : Int) := by
        rw [show (2 : Int) ^ min (Int.toNat (1 : Int)) IntKind.u64.bits = 2 from rfl, wrap_in (n := (i : Int) + j) (by omega) (by omega)]
        have u : IntKind.u64.wrap ((i : Int) + j) = (i : Int) + j := by
          simp only [IntKind.wrap, IntKind.bits, IntKind.signed, Bool.false_and]
          rw [if_neg (by simp)]
          omega
        rw [u, Int.fdiv_eq_ediv_of_nonneg _ (by omega), wrap_in (by omega) (by omega)]
        omega
      generalize hm : (i + j) / 2 = m at m1
      have hm1 : i ≤ m ∧ m < j := by omega
      have q2 : (0 : Int) ≤ (m : Int) ∧ (m : Int) < (l.length : Int) := by omega
      by_cases c : (rd l m 0).int < t
      · have w1 : IntKind.i64.wrap ((m : Int) + 1) = ((m + 1 : Nat) : Int) := by rw [wrap_in (by omega) (by omega)]; omega
        have hst : bsf_L0_step l t ((i : Int), (j : Int)) = some (.inl (((m + 1 : Nat) : Int), (j : Int))) := by
          simp only [bsf_L0_step, cond_dec q, m1, cond_dec q2, Int.toNat_natCast, cond_dec c, w1]
        rw [iter_inl hst]
        refine ih (j - (m + 1)) (by omega) (m + 1) j fuel (by omega) hl (by omega) (fun k hk => ?_) h2
        by_cases hkm : k = m
        · subst hkm; exact c
        · have := h.mono (i := k) (j := m) (by omega) (by omega); omega
      · have hst : bsf_L0_step l t ((i : Int), (j : Int)) = some (.inl ((i : Int), (m : Int))) := by
          by_cases c2 : (rd l m 0).int > t
          · simp only [bsf_L0_step, cond_dec q, m1, cond_dec q2, Int.toNat_natCast, cond_not c, cond_dec c2]
          · simp only [bsf_L0_step, cond_dec q, m1, cond_dec q2, Int.toNat_natCast, cond_not c, cond_not c2]
        rw [iter_inl hst]
        refine ih (m - i) (by omega) i m fuel (by omega) (by omega) (by omega) h1 (fun k hk hkl => ?_)
        by_cases hkm : k = m
        · subst hkm; omega
        · have := h.mono (i := m) (j := k) (by omega) hkl; omega
theorem tpl_is {w t : Int} {l : List (List Ct)} (h : RightT w l) : ∃ p, (tpl_res l t = some p ∧ tpl_v l t = p) ∧ PlaceT l t p := by
  have hn := h.n1
  obtain ⟨m, c, h1, h2, h3, h4⟩ := bsf_it (t := t) h l.length 0 l.length (l.length + 1) (by omega) (Nat.le_refl _) (by omega) (fun k hk => by omega) (fun k hk hkl => by omega)
  rw [show ((0 : Nat) : Int) = 0 from rfl] at h1
  have p1 : bsf_L0_p l t = true := by unfold bsf_L0_p; rw [h1]; rfl
  have p2 : (bsf_L0_v l t).1 = (m : Int) := by unfold bsf_L0_v loopRes; rw [h1]; rfl
  have fin : ∀ (b : Bool) (p : Int), bsf_res l t = some ((m : Int), b) → p = (bif b then (m : Int) else (m : Int) - 1) → PlaceT l t p → ∃ p, (tpl_res l t = some p ∧ tpl_v l t = p) ∧ PlaceT l t p := by
    intro b p hb hp hP
    have hv : bsf_v l t = ((m : Int), b) := by unfold bsf_v; rw [hb]; rfl
    have w1 : IntKind.i64.wrap ((m : Int) - 1) = (m : Int) - 1 := wrap_in (by omega) (by omega)
    have hr : tpl_res l t = some p := by
      unfold tpl_res
      rw [hb, hv]
      cases b with
      | true => rw [hp]; rfl
      | false => rw [hp]; simp only [w1]; rfl
    exact ⟨p, ⟨hr, by unfold tpl_v; rw [hr]; rfl⟩, hP⟩
  by_cases hm : m < l.length
  · have q : (m : Int) < (l.length : Int) := by omega
    have q2 : (0 : Int) ≤ (m : Int) ∧ (m : Int) < (l.length : Int) := by omega
    have hmt := h4 m (Nat.le_refl _) hm
    have c1 : ¬ (rd l m 0).int < t := by omega
    by_cases c2 : (rd l m 0).int > t
    · refine fin false ((m : Int) - 1) ?_ rfl ⟨by omega, by omega, fun i hi => by have := h3 i (by omega); omega, fun i hi hl => ?_⟩
      · unfold bsf_res
        simp only [p1, p2, cond_true, cond_dec q, cond_dec q2, Int.toNat_natCast, cond_not c1, cond_dec c2]
      · by_cases him : i = m
        · subst him; exact c2
        · have := h.mono (i := m) (j := i) (by omega) hl; omega
    · refine fin true (m : Int) ?_ rfl ⟨by omega, by omega, fun i hi => ?_, fun i hi hl => ?_⟩
      · unfold bsf_res
        simp only [p1, p2, cond_true, cond_dec q, cond_dec q2, Int.toNat_natCast, cond_not c1, cond_not c2]
      · by_cases him : i = m
        · subst him; omega
        · have := h3 i (by omega); omega
      · have := h.mono (i := m) (j := i) (by omega) hl; omega
  · have q : ¬ (m : Int) < (l.length : Int) := by omega
    refine fin false ((m : Int) - 1) ?_ rfl ⟨by omega, by omega, fun i hi => by have := h3 i (by omega); omega, fun i hi hl => by omega⟩
    unfold bsf_res
    simp only [p1, p2, cond_true, cond_not q]
/-- A track's value. -/
def atP (w : Int) (l : List (List Ct)) (t p : Int) : Int := (fun d => if w = 2 then easeS d else d) (divS (IntKind.i64.wrap (t - (rd l p.toNat 0).int)) (IntKind.i64.wrap ((rd l (p.toNat + 1) 0).int - (rd l p.toNat 0).int)))
def atJ (w : Int) (l : List (List Ct)) (t p : Int) (j : Nat) : Int :=
  if p < 0 then (rd l 0 j).int else if p = (l.length : Int) - 1 ∨ w = 0 then (rd l p.toNat j).int else lerpS (rd l p.toNat j).int (rd l (p.toNat + 1) j).int (atP w l t p)
theorem at_of {w t p : Int} {l : List (List Ct)} (h : RightT w l) (hp : PlaceT l t p) {res : Option (Int × Int × Int)} {R : Option Bool} {r : Bool} {P : Option Int} (hR : R.isSome = true) (hr : r = true) (hP : P.isSome = true)
    (hres : res = bif (R.isSome) then bif (!r) then (some (0, 0, 0)) else bif (P.isSome) then bif (decide (p < (0 : Int))) then (bif (decide ((0 : Int) ≤ (0 : Int) ∧ (0 : Int) < (↑l.length : Int))) then some ((rd l (Int.toNat (0 : Int)) 1).int, (rd l (Int.toNat (0 : Int)) 2).int, (rd l (Int.toNat (0 : Int)) 3).int) else none) else bif (p == IntKind.i64.wrap ((↑l.length : Int) - (1 : Int))) then (bif (decide ((0 : Int) ≤ p ∧ p < (↑l.length : Int))) then some ((rd l (p).toNat 1).int, (rd l (p).toNat 2).int, (rd l (p).toNat 3).int) else none) else bif (w == (0 : Int)) then (bif (decide ((0 : Int) ≤ p ∧ p < (↑l.length : Int))) then some ((rd l (p).toNat 1).int, (rd l (p).toNat 2).int, (rd l (p).toNat 3).int) else none) else bif (decide ((0 : Int) ≤ p ∧ p < (↑l.length : Int))) then bif (decide ((0 : Int) ≤ IntKind.i64.wrap (p + (1 : Int)) ∧ IntKind.i64.wrap (p + (1 : Int)) < (↑l.length : Int))) then bif (w == (2 : Int)) then (some (lerpS (rd l (p).toNat 1).int (rd l (IntKind.i64.wrap (p + (1 : Int))).toNat 1).int (easeS (divS (IntKind.i64.wrap (t - (rd l (p).toNat 0).int)) (IntKind.i64.wrap ((rd l (IntKind.i64.wrap (p + (1 : Int))).toNat 0).int - (rd l (p).toNat 0).int)))), lerpS (rd l (p).toNat 2).int (rd l (IntKind.i64.wrap (p + (1 : Int))).toNat 2).int (easeS (divS (IntKind.i64.wrap (t - (rd l (p).toNat 0).int)) (IntKind.i64.wrap ((rd l (IntKind.i64.wrap (p + (1 : Int))).toNat 0).int - (rd l (p).toNat 0).int)))), lerpS (rd l (p).toNat 3).int (rd l (IntKind.i64.wrap (p + (1 : Int))).toNat 3).int (easeS (divS (IntKind.i64.wrap (t - (rd l (p).toNat 0).int)) (IntKind.i64.wrap ((rd l (IntKind.i64.wrap (p + (1 : Int))).toNat 0).int - (rd l (p).toNat 0).int)))))) else some (lerpS (rd l (p).toNat 1).int (rd l (IntKind.i64.wrap (p + (1 : Int))).toNat 1).int (divS (IntKind.i64.wrap (t - (rd l (p).toNat 0).int)) (IntKind.i64.wrap ((rd l (IntKind.i64.wrap (p + (1 : Int))).toNat 0).int - (rd l (p).toNat 0).int))), lerpS (rd l (p).toNat 2).int (rd l (IntKind.i64.wrap (p + (1 : Int))).toNat 2).int (divS (IntKind.i64.wrap (t - (rd l (p).toNat 0).int)) (IntKind.i64.wrap ((rd l (IntKind.i64.wrap (p + (1 : Int))).toNat 0).int - (rd l (p).toNat 0).int))), lerpS (rd l (p).toNat 3).int (rd l (IntKind.i64.wrap (p + (1 : Int))).toNat 3).int (divS (IntKind.i64.wrap (t - (rd l (p).toNat 0).int)) (IntKind.i64.wrap ((rd l (IntKind.i64.wrap (p + (1 : Int))).toNat 0).int - (rd l (p).toNat 0).int)))) else none else none else none else none) : res = some (atJ w l t p 1, atJ w l t p 2, atJ w l t p 3) := by
  subst hres
  subst hr
  rw [hR, hP]
  have hn := h.n1
  have hn0 := h.n0
  have := hp.p0; have := hp.p1
  have w1 : IntKind.i64.wrap ((l.length : Int) - 1) = (l.length : Int) - 1 := wrap_in (by omega) (by omega)
  have w2 : IntKind.i64.wrap (p + 1) = p + 1 := wrap_in (by omega) (by omega)
  simp only [Bool.not_true, cond_false, cond_true, w1, w2]
  by_cases c0 : p < 0
  · have q : (0 : Int) ≤ 0 ∧ (0 : Int) < (l.length : Int) := by omega
    rw [cond_dec c0, cond_dec q]
    simp only [atJ, if_pos c0]
    rfl
  rw [cond_not c0]
  have q : (0 : Int) ≤ p ∧ p < (l.length : Int) := by omega
  by_cases c1 : p = (l.length : Int) - 1
  · rw [show (p == (l.length : Int) - 1) = true by simpa using c1, cond_true, cond_dec q]
    simp only [atJ, if_neg c0, if_pos (Or.inl c1 : p = (l.length : Int) - 1 ∨ w = 0)]
  rw [show (p == (l.length : Int) - 1) = false by simpa using c1, cond_false]
  by_cases c2 : w = 0
  · rw [show (w == (0 : Int)) = true by simpa using c2, cond_true, cond_dec q]
    simp only [atJ, if_neg c0, if_pos (Or.inr c2 : p = (l.length : Int) - 1 ∨ w = 0)]
  have q3 : (0 : Int) ≤ p + 1 ∧ p + 1 < (l.length : Int) := by omega
  have e : (p + 1).toNat = p.toNat + 1 := by omega
  have cn : ¬ (p = (l.length : Int) - 1 ∨ w = 0) := by omega
  rw [show (w == (0 : Int)) = false by simpa using c2, cond_false, cond_dec q, cond_dec q3]
  by_cases c3 : w = 2
  · rw [show (w == (2 : Int)) = true by simpa using c3, cond_true]
    simp only [atJ, atP, if_neg c0, if_neg cn, if_pos c3, e]
  · rw [show (w == (2 : Int)) = false by simpa using c3, cond_false]
    simp only [atJ, atP, if_neg c0, if_neg cn, if_neg c3, e]
theorem tat_is {w t : Int} {l : List (List Ct)} (h : RightT w l) : ∃ p, PlaceT l t p ∧ tpl_v l t = p ∧ tat_res w l t = some (atJ w l t p 1, atJ w l t p 2, atJ w l t p 3) ∧ tat_v w l t = (atJ w l t p 1, atJ w l t p 2, atJ w l t p 3) := by
  obtain ⟨b, ⟨r1, r2⟩, r3⟩ := trt_is (w := w) (l := l)
  obtain ⟨p, ⟨k1, k2⟩, k3⟩ := tpl_is (t := t) h
  have := at_of h k3 (res := tat_res w l t) (R := trt_res w l) (r := trt_v w l) (P := tpl_res l t) (by rw [r1]; rfl) (by rw [r2]; exact r3.2 h) (by rw [k1]; rfl) (by unfold tat_res; rw [k2])
  exact ⟨p, k3, k2, this, by unfold tat_v; rw [this]; rfl⟩
theorem rat_is {w t : Int} {l : List (List Ct)} (h : RightT w l) : ∃ p, PlaceT l t p ∧ rpl_v l t = p ∧ rat_res w l t = some (atJ w l t p 1, atJ w l t p 2, atJ w l t p 3) ∧ rat_v w l t = (atJ w l t p 1, atJ w l t p 2, atJ w l t p 3) := by
  obtain ⟨b, ⟨r1, r2⟩, r3⟩ := rrt_is (w := w) (l := l)
  obtain ⟨p, ⟨k1, k2⟩, k3⟩ := rpl_is (t := t) h
  have := at_of h k3 (res := rat_res w l t) (R := rrt_res w l) (r := rrt_v w l) (P := rpl_res l t) (by rw [r1]; rfl) (by rw [r2]; exact r3.2 h) (by rw [k1]; rfl) (by unfold rat_res; rw [k2])
  exact ⟨p, k3, k2, this, by unfold rat_v; rw [this]; rfl⟩
theorem PlaceT.same {y x : List (List Ct)} (h : Same4 y x) {t p : Int} (k : PlaceT y t p) : PlaceT x t p :=
  ⟨k.p0, by have := k.p1; rw [h.len] at this; exact this, fun i hi => by have := k.p1; rw [h.len] at this; rw [← h.at' i (by omega) 0 (by omega)]; exact k.le i hi, fun i hi hl => by rw [← h.at' i hl 0 (by omega)]; exact k.gt i hi (by rw [h.len]; exact hl)⟩
theorem atJ_same {y x : List (List Ct)} (h : Same4 y x) {w t p : Int} (hx : 1 ≤ x.length) (h0 : -1 ≤ p) (h1 : p < x.length) {j : Nat} (hj : j < 4) : atJ w y t p j = atJ w x t p j := by
  unfold atJ
  by_cases c0 : p < 0
  · rw [if_pos c0, if_pos c0, h.at' 0 (by omega) j hj]
  rw [if_neg c0, if_neg c0, h.len]
  by_cases c1 : p = (x.length : Int) - 1 ∨ w = 0
  · rw [if_pos c1, if_pos c1, h.at' p.toNat (by omega) j hj]
  · rw [if_neg c1, if_neg c1, h.at' p.toNat (by omega) j hj, h.at' (p.toNat + 1) (by omega) j hj]
    unfold atP
    rw [h.at' p.toNat (by omega) 0 (by omega), h.at' (p.toNat + 1) (by omega) 0 (by omega)]
end Go.Proofs.Ytmpaelkjooahoaa
