/- The law OrbitParts: it answers true for all values. No condition. -/
import Derived.Test.YtmpaelkjooahoaaSumSort
import Derived.Test.YtmpaelkjooahoaaTrackAt
import Derived.Test.YtmpaelkjooahoaaTrackC
import Derived.Test.YtmpaelkjooahoaaOrbitPartsT
set_option linter.unusedVariables false
set_option linter.unusedSimpArgs false
namespace Go.Proofs.Ytmpaelkjooahoaa
open Go.RowKit

theorem tat_eq {w : Int} {y x : List (List Ct)} (h : RightT w x) (s : Same4 y x) (t : Int) : (tat_res w y t).isSome = true ∧ tat_v w y t = rat_v w x t ∧ (rat_res w x t).isSome = true := by
  have hy : RightT w y := (RightT.same s).2 h
  obtain ⟨p, p1, p2, p3, p4⟩ := tat_is (t := t) hy
  obtain ⟨q, q1, q2, q3, q4⟩ := rat_is (t := t) h
  have e : p = q := PlaceT.uniq (p1.same s) q1
  subst e
  have n0 := h.n0
  refine ⟨by rw [p3]; rfl, ?_, by rw [q3]; rfl⟩
  rw [p4, q4, atJ_same s n0 q1.p0 q1.p1 (j := 1) (by omega), atJ_same s n0 q1.p0 q1.p1 (j := 2) (by omega), atJ_same s n0 q1.p0 q1.p1 (j := 3) (by omega)]
/-- Keys between two times. -/
def paF (x : List (List Ct)) (a b : Int) (k : Nat) (l : List (List Ct)) : List (List Ct) := if (rd x k 0).int > a ∧ (rd x k 0).int < b then l ++ [[.i (rd x k 0).int, .i (rd x k 1).int, .i (rd x k 2).int, .i (rd x k 3).int]] else l
theorem paF_len {x : List (List Ct)} {a b : Int} {k : Nat} {l : List (List Ct)} : l.length ≤ (paF x a b k l).length ∧ (paF x a b k l).length ≤ l.length + 1 := by
  unfold paF
  split
  · simp
  · simp
theorem opa_rows {y x : List (List Ct)} (s : Same4 y x) (hb : x.length ≤ 16) {a b : Int} {g : List (List Ct)} (hg : g.length = 1) : iter (opa_L0_step y a b) (y.length + 1) (0, g) = some ((x.length : Int), nfold (paF x a b) x.length g) := by
  have hl := s.len
  exact iter_range (step := opa_L0_step y a b) (A := List (List Ct)) (fun k l => ((k : Int), l)) (fun k l => l.length ≤ k + 1) (f := paF x a b) (out := fun l => ((x.length : Int), l)) (n := x.length) (m := y.length + 1) (v := (0, g)) (a0 := g) rfl (by omega)
    (fun k hk l hl' => ⟨by
      have w := wrap_succ (k := k) (by omega)
      have q : (k : Int) < (x.length : Int) := by omega
      have q2 : (0 : Int) ≤ (k : Int) ∧ (k : Int) < (x.length : Int) := by omega
      have e0 := s.at' k hk 0 (by omega)
      have e1 := s.at' k hk 1 (by omega)
      have e2 := s.at' k hk 2 (by omega)
      have e3 := s.at' k hk 3 (by omega)
      have o : ∀ r : List Ct, l.length + [r].length ≤ 9223372036854775807 ∧ (l.length + [r].length) * 32 ≤ 140737488355328 := fun r => by simp only [List.length_singleton]; omega
      by_cases c1 : (rd x k 0).int > a
      · by_cases c2 : (rd x k 0).int < b
        · simp only [opa_L0_step, hl, cond_dec q, cond_dec q2, Int.toNat_natCast, e0, e1, e2, e3, cond_dec c1, cond_dec c2, cond_dec (o _), w, paF, if_pos (And.intro c1 c2)]
        · have c : ¬ ((rd x k 0).int > a ∧ (rd x k 0).int < b) := fun h => c2 h.2
          simp only [opa_L0_step, hl, cond_dec q, cond_dec q2, Int.toNat_natCast, e0, cond_dec c1, cond_not c2, w, paF, if_neg c]
      · have c : ¬ ((rd x k 0).int > a ∧ (rd x k 0).int < b) := fun h => c1 h.1
        simp only [opa_L0_step, hl, cond_dec q, cond_dec q2, Int.toNat_natCast, e0, cond_not c1, w, paF, if_neg c], by have := (paF_len (x := x) (a := a) (b := b) (k := k) (l := l)).2; omega⟩)
    (fun l _ => by
      have q : ¬ ((x.length : Int) < (x.length : Int)) := by omega
      simp only [opa_L0_step, hl, cond_not q]) (by omega)
theorem rpa_rows {x : List (List Ct)} (hb : x.length ≤ 16) {a b : Int} {g : List (List Ct)} (hg : g.length = 1) : iter (rpa_L0_step x a b) (x.length + 1) (0, g) = some ((x.length : Int), nfold (paF x a b) x.length g) := by
  exact iter_range (step := rpa_L0_step x a b) (A := List (List Ct)) (fun k l => ((k : Int), l)) (fun k l => l.length ≤ k + 1) (f := paF x a b) (out := fun l => ((x.length : Int), l)) (n := x.length) (m := x.length + 1) (v := (0, g)) (a0 := g) rfl (by omega)
    (fun k hk l hl' => ⟨by
      have w := wrap_succ (k := k) (by omega)
      have q : (k : Int) < (x.length : Int) := by omega
      have q2 : (0 : Int) ≤ (k : Int) ∧ (k : Int) < (x.length : Int) := by omega
      have o : ∀ r : List Ct, l.length + [r].length ≤ 9223372036854775807 ∧ (l.length + [r].length) * 32 ≤ 140737488355328 := fun r => by simp only [List.length_singleton]; omega
      by_cases c1 : (rd x k 0).int > a
      · by_cases c2 : (rd x k 0).int < b
        · simp only [rpa_L0_step, cond_dec q, cond_dec q2, Int.toNat_natCast, cond_dec c1, cond_dec c2, cond_dec (o _), w, paF, if_pos (And.intro c1 c2)]
        · have c : ¬ ((rd x k 0).int > a ∧ (rd x k 0).int < b) := fun h => c2 h.2
          simp only [rpa_L0_step, cond_dec q, cond_dec q2, Int.toNat_natCast, cond_dec c1, cond_not c2, w, paF, if_neg c]
      · have c : ¬ ((rd x k 0).int > a ∧ (rd x k 0).int < b) := fun h => c1 h.1
        simp only [rpa_L0_step, cond_dec q, cond_dec q2, Int.toNat_natCast, cond_not c1, w, paF, if_neg c], by have := (paF_len (x := x) (a := a) (b := b) (k := k) (l := l)).2; omega⟩)
    (fun l _ => by
      have q : ¬ ((x.length : Int) < (x.length : Int)) := by omega
      simp only [rpa_L0_step, cond_not q]) (by omega)
theorem pa_len {x : List (List Ct)} {a b : Int} {g : List (List Ct)} (hg : g.length = 1) : 1 ≤ (nfold (paF x a b) x.length g).length ∧ (nfold (paF x a b) x.length g).length ≤ x.length + 1 :=
  nfold_inv (f := paF x a b) (fun k l => 1 ≤ l.length ∧ l.length ≤ k + 1) (n := x.length) (by omega) (fun k hk l h => by have := paF_len (x := x) (a := a) (b := b) (k := k) (l := l); omega)
/-- Both ways agree. -/
def Agree (p q : Option (Int × Int × List (List Ct))) (v u : Int × Int × List (List Ct)) : Prop := ∃ w' e r s, (p = some (w', e, r) ∧ v = (w', e, r)) ∧ (q = some (w', e, s) ∧ u = (w', e, s)) ∧ kOf r = kOf s ∧ r.length ≤ 40
theorem part_is {w : Int} {y x : List (List Ct)} (s : Same4 y x) (a b : Int) : Agree (opa_res w y a b) (rpa_res w x a b) (opa_v w y a b) (rpa_v w x a b) := by
  have fin : ∀ w' e r s', opa_res w y a b = some (w', e, r) → rpa_res w x a b = some (w', e, s') → kOf r = kOf s' → r.length ≤ 40 → Agree (opa_res w y a b) (rpa_res w x a b) (opa_v w y a b) (rpa_v w x a b) := fun w' e r s' h1 h2 h3 h4 =>
    ⟨w', e, r, s', ⟨h1, by unfold opa_v; rw [h1]; rfl⟩, ⟨h2, by unfold rpa_v; rw [h2]; rfl⟩, h3, h4⟩
  obtain ⟨b1, ⟨t1, t2⟩, t3⟩ := trt_is (w := w) (l := y)
  obtain ⟨b2, ⟨t4, t5⟩, t6⟩ := rrt_is (w := w) (l := x)
  have hb12 : b1 = b2 := by
    have : b1 = true ↔ b2 = true := by rw [t3, t6, RightT.same s]
    cases b1 <;> cases b2 <;> simp_all
  subst hb12
  cases b1 with
  | false => exact fin 0 1 [] [] (by unfold opa_res; rw [t1, t2]; rfl) (by unfold rpa_res; rw [t4, t5]; rfl) rfl (by simp)
  | true =>
    have hx : RightT w x := t6.1 rfl
    have u1 : (trt_res w y).isSome = true := by rw [t1]; rfl
    have u2 : (rrt_res w x).isSome = true := by rw [t4]; rfl
    by_cases c0 : a < 0
    · exact fin 0 1 [] [] (by unfold opa_res; simp only [u1, t2, cond_true, Bool.not_true, cond_false, cond_dec c0]) (by unfold rpa_res; simp only [u2, t5, cond_true, Bool.not_true, cond_false, cond_dec c0]) rfl (by simp)
    by_cases c1 : a ≥ b
    · exact fin 0 1 [] [] (by unfold opa_res; simp only [u1, t2, cond_true, Bool.not_true, cond_false, cond_not c0, cond_dec c1]) (by unfold rpa_res; simp only [u2, t5, cond_true, Bool.not_true, cond_false, cond_not c0, cond_dec c1]) rfl (by simp)
    by_cases c2 : b > 2097152
    · exact fin 0 1 [] [] (by unfold opa_res; simp only [u1, t2, cond_true, Bool.not_true, cond_false, cond_not c0, cond_not c1, cond_dec c2]) (by unfold rpa_res; simp only [u2, t5, cond_true, Bool.not_true, cond_false, cond_not c0, cond_not c1, cond_dec c2]) rfl (by simp)
    obtain ⟨k1, k2, k3⟩ := tat_eq hx s a
    obtain ⟨l1, l2, l3⟩ := tat_eq hx s b
    have hn := hx.n1
    have r1 := opa_rows s hn (a := a) (b := b) (g := [[.i a, .i (rat_v w x a).1, .i (rat_v w x a).2.1, .i (rat_v w x a).2.2]]) rfl
    have r2 := rpa_rows hn (a := a) (b := b) (g := [[.i a, .i (rat_v w x a).1, .i (rat_v w x a).2.1, .i (rat_v w x a).2.2]]) rfl
    have hN := pa_len (x := x) (a := a) (b := b) (g := [[.i a, .i (rat_v w x a).1, .i (rat_v w x a).2.1, .i (rat_v w x a).2.2]]) rfl
    generalize nfold (paF x a b) x.length [[.i a, .i (rat_v w x a).1, .i (rat_v w x a).2.1, .i (rat_v w x a).2.2]] = N at r1 r2 hN
    have p1 : opa_L0_p w y a b = true := by unfold opa_L0_p; rw [k2, r1]; rfl
    have v1 : (opa_L0_v w y a b).2 = N := by unfold opa_L0_v loopRes; rw [k2, r1]; rfl
    have p2 : rpa_L0_p w x a b = true := by unfold rpa_L0_p; rw [r2]; rfl
    have v2 : (rpa_L0_v w x a b).2 = N := by unfold rpa_L0_v loopRes; rw [r2]; rfl
    have o : ∀ r : List Ct, N.length + [r].length ≤ 9223372036854775807 ∧ (N.length + [r].length) * 32 ≤ 140737488355328 := fun r => by simp only [List.length_singleton]; omega
    obtain ⟨w', e, r, s', ⟨m1, m2⟩, ⟨m3, m4⟩, m5, m6, _, _⟩ := make_ok (w := w) (a := N ++ [[.i b, .i (rat_v w x b).1, .i (rat_v w x b).2.1, .i (rat_v w x b).2.2]]) (b := N ++ [[.i b, .i (rat_v w x b).1, .i (rat_v w x b).2.1, .i (rat_v w x b).2.2]]) (by simp) (by simp; omega) (stb_few (by simp) (by simp; omega)) rfl
    refine fin w' e r s' ?_ ?_ m5 m6
    · unfold opa_res
      simp only [u1, t2, cond_true, Bool.not_true, cond_false, cond_not c0, cond_not c1, cond_not c2, k1, p1, l1, l2, v1, cond_dec (o _), m1, m2, Option.isSome_some]
    · unfold rpa_res
      simp only [u2, t5, cond_true, Bool.not_true, cond_false, cond_not c0, cond_not c1, cond_not c2, k3, p2, l3, v2, cond_dec (o _), m3, m4, Option.isSome_some]
end Go.Proofs.Ytmpaelkjooahoaa
