/- The law OrbitParts: it answers true for all values. No condition. -/
import Derived.Test.YtmpaelkjooahoaaOrbitParts
set_option linter.unusedVariables false
set_option linter.unusedSimpArgs false
namespace Go.Proofs.Ytmpaelkjooahoaa
open Go.RowKit

theorem rd_app {l l' : List (List Ct)} {k j : Nat} : rd (l ++ l') k j = if k < l.length then rd l k j else rd l' (k - l.length) j := by
  unfold rd
  simp only [List.getD_eq_getElem?_getD]
  by_cases h : k < l.length
  · rw [if_pos h, List.getElem?_append_left h]
  · rw [if_neg h, List.getElem?_append_right (by omega)]
/-- The sum at a time; the times. -/
noncomputable def smF (w1 : Int) (x1 : List (List Ct)) (w2 : Int) (x2 : List (List Ct)) (t : Int) : List Ct := [.i t, .i (addS (rat_v w1 x1 t).1 (rat_v w2 x2 t).1), .i (addS (rat_v w1 x1 t).2.1 (rat_v w2 x2 t).2.1), .i (addS (rat_v w1 x1 t).2.2 (rat_v w2 x2 t).2.2)]
def smT (x1 x2 : List (List Ct)) (k : Nat) : Int := if k < x1.length then (rd x1 k 0).int else (rd x2 (k - x1.length) 0).int
section
variable {w1 w2 : Int} {y1 y2 x1 x2 : List (List Ct)} (r1 : RightT w1 x1) (r2 : RightT w2 x2)
include r1 r2
theorem osu_rows (s1 : Same4 y1 x1) (s2 : Same4 y2 x2) : iter (osu_L0_step w1 y1 w2 y2) (y1.length + y2.length + 1) (0, []) = some (((x1.length + x2.length : Nat) : Int), tab (fun k => smF w1 x1 w2 x2 (smT x1 x2 k)) (x1.length + x2.length)) := by
  have hl1 := s1.len
  have hl2 := s2.len
  have n1 := r1.n1
  have n2 := r2.n1
  have hlen : ([] ++ y1 ++ y2).length = x1.length + x2.length := by simp [hl1, hl2]
  have := iter_range (step := osu_L0_step w1 y1 w2 y2) (A := List (List Ct)) (fun k l => ((k : Int), l)) (fun k l => l.length = k) (f := fun k l => l ++ [smF w1 x1 w2 x2 (smT x1 x2 k)]) (out := fun l => (((x1.length + x2.length : Nat) : Int), l)) (n := x1.length + x2.length) (m := y1.length + y2.length + 1) (v := (0, [])) (a0 := []) rfl (by omega)
    (fun k hk l hl' => ⟨by
      have w := wrap_succ (k := k) (by omega)
      have q : (k : Int) < ((x1.length + x2.length : Nat) : Int) := by omega
      have q2 : (0 : Int) ≤ (k : Int) ∧ (k : Int) < ((x1.length + x2.length : Nat) : Int) := by omega
      have ht : (rd ([] ++ y1 ++ y2) k 0).int = smT x1 x2 k := by
        rw [List.nil_append, rd_app, hl1]
        unfold smT
        by_cases c : k < x1.length
        · rw [if_pos c, if_pos c, s1.at' k c 0 (by omega)]
        · rw [if_neg c, if_neg c, s2.at' (k - x1.length) (by omega) 0 (by omega)]
      have o : ∀ r : List Ct, l.length + [r].length ≤ 9223372036854775807 ∧ (l.length + [r].length) * 32 ≤ 140737488355328 := fun r => by simp only [List.length_singleton]; omega
      obtain ⟨a1, a2, _⟩ := tat_eq r1 s1 (smT x1 x2 k)
      obtain ⟨b1, b2, _⟩ := tat_eq r2 s2 (smT x1 x2 k)
      simp only [osu_L0_step, hlen, cond_dec q, cond_dec q2, Int.toNat_natCast, ht, a1, a2, b1, b2, cond_true, cond_dec (o _), w, smF], by simp [hl']⟩)
    (fun l _ => by
      have q : ¬ (((x1.length + x2.length : Nat) : Int) < ((x1.length + x2.length : Nat) : Int)) := by omega
      simp only [osu_L0_step, hlen, cond_not q]) rfl
  rw [this]
  congr 2
  exact nfold_tab (fun k a => rfl) _
theorem rsu_rows : iter (rsu_L0_step w1 x1 w2 x2) (x1.length + x2.length + 1) (0, []) = some (((x1.length + x2.length : Nat) : Int), tab (fun k => smF w1 x1 w2 x2 (smT x1 x2 k)) (x1.length + x2.length)) := by
  have n1 := r1.n1
  have n2 := r2.n1
  have hw : IntKind.i64.wrap ((x1.length : Int) + (x2.length : Int)) = ((x1.length + x2.length : Nat) : Int) := by rw [wrap_in (by omega) (by omega)]; omega
  have := iter_range (step := rsu_L0_step w1 x1 w2 x2) (A := List (List Ct)) (fun k l => ((k : Int), l)) (fun k l => l.length = k) (f := fun k l => l ++ [smF w1 x1 w2 x2 (smT x1 x2 k)]) (out := fun l => (((x1.length + x2.length : Nat) : Int), l)) (n := x1.length + x2.length) (m := x1.length + x2.length + 1) (v := (0, [])) (a0 := []) rfl (by omega)
    (fun k hk l hl' => ⟨by
      have w := wrap_succ (k := k) (by omega)
      have q : (k : Int) < ((x1.length + x2.length : Nat) : Int) := by omega
      have o : ∀ r : List Ct, l.length + [r].length ≤ 9223372036854775807 ∧ (l.length + [r].length) * 32 ≤ 140737488355328 := fun r => by simp only [List.length_singleton]; omega
      have a1 := fun t => (tat_eq r1 (y := x1) ⟨rfl, fun _ _ _ _ => rfl⟩ t).2.2
      have b1 := fun t => (tat_eq r2 (y := x2) ⟨rfl, fun _ _ _ _ => rfl⟩ t).2.2
      by_cases c : k < x1.length
      · have q1 : (k : Int) < (x1.length : Int) := by omega
        have q2 : (0 : Int) ≤ (k : Int) ∧ (k : Int) < (x1.length : Int) := by omega
        simp only [rsu_L0_step, hw, cond_dec q, cond_dec q1, cond_dec q2, Int.toNat_natCast, a1, b1, cond_true, cond_dec (o _), w, smF, smT, if_pos c]
      · have q1 : ¬ (k : Int) < (x1.length : Int) := by omega
        have w2 : IntKind.i64.wrap ((k : Int) - (x1.length : Int)) = ((k - x1.length : Nat) : Int) := by rw [wrap_in (by omega) (by omega)]; omega
        have q2 : (0 : Int) ≤ ((k - x1.length : Nat) : Int) ∧ ((k - x1.length : Nat) : Int) < (x2.length : Int) := by omega
        simp only [rsu_L0_step, hw, cond_dec q, cond_not q1, w2, cond_dec q2, Int.toNat_natCast, a1, b1, cond_true, cond_dec (o _), w, smF, smT, if_neg c], by simp [hl']⟩)
    (fun l _ => by
      have q : ¬ (((x1.length + x2.length : Nat) : Int) < ((x1.length + x2.length : Nat) : Int)) := by omega
      simp only [rsu_L0_step, hw, cond_not q]) rfl
  rw [this]
  congr 2
  exact nfold_tab (fun k a => rfl) _
end
theorem sm_uni {w1 w2 : Int} {x1 x2 : List (List Ct)} {n : Nat} : ∀ p ∈ kOf (tab (fun k => smF w1 x1 w2 x2 (smT x1 x2 k)) n), ∀ q ∈ kOf (tab (fun k => smF w1 x1 w2 x2 (smT x1 x2 k)) n), p.1 = q.1 → p = q := by
  have key : ∀ p ∈ kOf (tab (fun k => smF w1 x1 w2 x2 (smT x1 x2 k)) n), p = (p.1, addS (rat_v w1 x1 p.1).1 (rat_v w2 x2 p.1).1, addS (rat_v w1 x1 p.1).2.1 (rat_v w2 x2 p.1).2.1, addS (rat_v w1 x1 p.1).2.2 (rat_v w2 x2 p.1).2.2) := fun p hp => by
    obtain ⟨k, hk, rfl⟩ := kOf_mem.1 hp
    rw [tab_length] at hk
    unfold kA
    simp only [rd_tab hk]
    rfl
  intro p hp q hq h
  rw [key p hp, key q hq, h]
theorem sum_is {w1 w2 : Int} {y1 y2 x1 x2 : List (List Ct)} (s1 : Same4 y1 x1) (s2 : Same4 y2 x2) : Agree (osu_res w1 y1 w2 y2) (rsu_res w1 x1 w2 x2) (osu_v w1 y1 w2 y2) (rsu_v w1 x1 w2 x2) := by
  have fin : ∀ w' e r s', osu_res w1 y1 w2 y2 = some (w', e, r) → rsu_res w1 x1 w2 x2 = some (w', e, s') → kOf r = kOf s' → r.length ≤ 40 → Agree (osu_res w1 y1 w2 y2) (rsu_res w1 x1 w2 x2) (osu_v w1 y1 w2 y2) (rsu_v w1 x1 w2 x2) := fun w' e r s' h1 h2 h3 h4 =>
    ⟨w', e, r, s', ⟨h1, by unfold osu_v; rw [h1]; rfl⟩, ⟨h2, by unfold rsu_v; rw [h2]; rfl⟩, h3, h4⟩
  have both : ∀ {w : Int} {y x : List (List Ct)}, Same4 y x → ∃ b, (trt_res w y = some b ∧ trt_v w y = b) ∧ (rrt_res w x = some b ∧ rrt_v w x = b) ∧ (b = true ↔ RightT w x) := fun {w y x} s => by
    obtain ⟨b1, t1, t3⟩ := trt_is (w := w) (l := y)
    obtain ⟨b2, t4, t6⟩ := rrt_is (w := w) (l := x)
    have hb12 : b1 = b2 := by
      have : b1 = true ↔ b2 = true := by rw [t3, t6, RightT.same s]
      cases b1 <;> cases b2 <;> simp_all
    subst hb12
    exact ⟨b1, t1, t4, t6⟩
  obtain ⟨b1, ⟨t1, t2⟩, ⟨t3, t4⟩, t5⟩ := both (w := w1) s1
  obtain ⟨b2, ⟨u1, u2⟩, ⟨u3, u4⟩, u5⟩ := both (w := w2) s2
  cases b1 with
  | false => exact fin 0 1 [] [] (by unfold osu_res; rw [t1, t2]; rfl) (by unfold rsu_res; rw [t3, t4]; rfl) rfl (by simp)
  | true =>
    have ta : (trt_res w1 y1).isSome = true := by rw [t1]; rfl
    have tb : (rrt_res w1 x1).isSome = true := by rw [t3]; rfl
    have ua : (trt_res w2 y2).isSome = true := by rw [u1]; rfl
    have ub : (rrt_res w2 x2).isSome = true := by rw [u3]; rfl
    cases b2 with
    | false => exact fin 0 1 [] [] (by unfold osu_res; simp only [ta, t2, ua, u2, cond_true, cond_false, Bool.not_true, Bool.not_false]) (by unfold rsu_res; simp only [tb, t4, ub, u4, cond_true, cond_false, Bool.not_true, Bool.not_false]) rfl (by simp)
    | true =>
      by_cases c : w1 = w2
      · have cq : (w1 != w2) = false := by simp [c]
        have r1 := t5.1 rfl
        have r2 := u5.1 rfl
        have g1 := osu_rows r1 r2 s1 s2
        have g2 := rsu_rows r1 r2
        have hu := sm_uni (w1 := w1) (w2 := w2) (x1 := x1) (x2 := x2) (n := x1.length + x2.length)
        have hn : (tab (fun k => smF w1 x1 w2 x2 (smT x1 x2 k)) (x1.length + x2.length)).length = x1.length + x2.length := tab_length _ _
        generalize tab (fun k => smF w1 x1 w2 x2 (smT x1 x2 k)) (x1.length + x2.length) = L at g1 g2 hu hn
        have n0 := r1.n0
        have n1 := r1.n1
        have m0 := r2.n0
        have m1 := r2.n1
        have l1 := s1.len
        have l2 := s2.len
        obtain ⟨w', e, r, s', ⟨m1, m2⟩, ⟨m3, m4⟩, m5, m6, _, _⟩ := make_any (w := w1) (a := L) (b := L) (by omega) (by omega) (stb_uni (by omega) (by omega) hu) rfl
        have p1 : osu_L0_p w1 y1 w2 y2 = true := by unfold osu_L0_p; rw [g1]; rfl
        have v1 : (osu_L0_v w1 y1 w2 y2).2 = L := by unfold osu_L0_v loopRes; rw [g1]; rfl
        have p2 : rsu_L0_p w1 x1 w2 x2 = true := by unfold rsu_L0_p; rw [g2]; rfl
        have v2 : (rsu_L0_v w1 x1 w2 x2).2 = L := by unfold rsu_L0_v loopRes; rw [g2]; rfl
        have o1 : 0 < y1.length := by omega
        have o2 : 0 + y1.length ≤ 9223372036854775807 ∧ (0 + y1.length) * 32 ≤ 140737488355328 := by omega
        have o3 : ([] ++ y1).length + y2.length ≤ 9223372036854775807 ∧ (([] ++ y1).length + y2.length) * 32 ≤ 140737488355328 := by simp only [List.nil_append]; omega
        refine fin w' e r s' ?_ ?_ m5 m6
        · unfold osu_res
          simp only [ta, t2, ua, u2, cq, cond_true, cond_false, Bool.not_true, cond_dec o1, cond_dec o2, cond_dec o3, p1, v1, m1, m2, Option.isSome_some]
        · unfold rsu_res
          simp only [tb, t4, ub, u4, cq, cond_true, cond_false, Bool.not_true, p2, v2, m3, m4, Option.isSome_some]
      · have cq : (w1 != w2) = true := by simp [c]
        exact fin 0 1 [] [] (by unfold osu_res; simp only [ta, t2, ua, u2, cq, cond_true, cond_false, Bool.not_true]) (by unfold rsu_res; simp only [tb, t4, ub, u4, cq, cond_true, cond_false, Bool.not_true]) rfl (by simp)
theorem lop_true (w1 : Int) (x1 : List (List Ct)) (w2 : Int) (x2 : List (List Ct)) (a b : Int) : lop_res w1 x1 w2 x2 a b = some true := by
  unfold lop_res
  by_cases c1 : (x1.length : Int) > 40
  · rw [cond_dec c1]
  by_cases c2 : (x2.length : Int) > 40
  · rw [cond_not c1, cond_dec c2]
  rw [cond_not c1, cond_not c2]
  obtain ⟨k1, k2⟩ := tky_ok (x := x1) (by omega)
  obtain ⟨k3, k4⟩ := tky_ok (x := x2) (by omega)
  have s1 : Same4 (cK x1) x1 := same4_of kOf_cK
  have s2 : Same4 (cK x2) x2 := same4_of kOf_cK
  rw [k1, k2, k3, k4]
  obtain ⟨wp, ep, rp, sp, ⟨p1, p2⟩, ⟨p3, p4⟩, p5, p6⟩ := part_is (w := w1) s1 a b
  obtain ⟨wq, eq, rq, sq, ⟨q1, q2⟩, ⟨q3, q4⟩, q5, q6⟩ := sum_is (w1 := w1) (w2 := w2) s1 s2
  obtain ⟨i1, i2, i3⟩ := is_ok (w := wp) p5 (by omega)
  obtain ⟨j1, j2, j3⟩ := is_ok (w := wq) q5 (by omega)
  simp only [p1, p2, p3, p4, q1, q2, q3, q4, Option.isSome_some, cond_true, beq_self_eq_true, i1, i2, i3, j1, j2, j3]
theorem lop_call (w1 : Int) (x1 : List (List Ct)) (w2 : Int) (x2 : List (List Ct)) (a b : Int) : CallOk Try.prog 7 [.sv (.agg [.val false (.int .i64 w1), .ext 0]), .sv (.agg [.val false (.int .i64 w2), .ext 1]), .sv (.one (.val false (.int .i64 a))), .sv (.one (.val false (.int .i64 b)))] [(0, .grid [.int .i64, .int .i64, .int .i64, .int .i64] x1), (1, .grid [.int .i64, .int .i64, .int .i64, .int .i64] x2)] 2 (lop_O true) := lop_tree (lop_true w1 x1 w2 x2 a b)
end Go.Proofs.Ytmpaelkjooahoaa
