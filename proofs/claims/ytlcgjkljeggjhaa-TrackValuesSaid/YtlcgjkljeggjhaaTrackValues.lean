/- The law TrackValues: it answers true for all values. No condition. -/
import Derived.Test.YtlcgjkljeggjhaaTrackLaw
import Derived.Test.YtlcgjkljeggjhaaTrackValuesT
set_option linter.unusedVariables false
set_option linter.unusedSimpArgs false
namespace Go.Proofs.Ytlcgjkljeggjhaa
open Go.RowKit

theorem ltv_true (w : Int) (x : List (List Ct)) (t : Int) : ltv_res w x t = some true := by
  unfold ltv_res
  by_cases h60 : (x.length : Int) > 60
  · rw [cond_dec h60]
  obtain ⟨k1, hS⟩ := tky_is (x := x) (by omega)
  generalize tky_v x = y at hS
  obtain ⟨b1, ⟨r1, r1'⟩, r2⟩ := trt_is (w := w) (l := y)
  obtain ⟨b2, ⟨s1, s1'⟩, s2⟩ := rrt_is (w := w) (l := x)
  by_cases hR : RightT w x
  · obtain rfl : b1 = true := r2.2 ((RightT.same hS).2 hR)
    obtain rfl : b2 = true := s2.2 hR
    have hRy := (RightT.same hS).2 hR
    obtain ⟨p, p1, p2, p3, p4⟩ := tat_is (t := t) hRy
    obtain ⟨q, q1, q2, q3, q4⟩ := rat_is (t := t) hR
    obtain ⟨p', ⟨p5, p6⟩, p7⟩ := tpl_is (t := t) hRy
    obtain ⟨q', ⟨q5, q6⟩, q7⟩ := rpl_is (t := t) hR
    have hpq : p = q := (p1.same hS).uniq q1
    have hn := hR.n0
    have e1 := atJ_same hS (w := w) (t := t) hn q1.p0 q1.p1 (j := 1) (by omega)
    have e2 := atJ_same hS (w := w) (t := t) hn q1.p0 q1.p1 (j := 2) (by omega)
    have e3 := atJ_same hS (w := w) (t := t) hn q1.p0 q1.p1 (j := 3) (by omega)
    rw [hpq] at p2 p3 p4
    rw [e1, e2, e3] at p3 p4
    rw [cond_not h60, k1, r1, r1', s1, s1', p5, q5, p2, q2, p3, q3, p4, q4]
    simp
  · have hb2 : b2 = false := by cases b2 with | false => rfl | true => exact absurd (s2.1 rfl) hR
    have hb1 : b1 = false := by cases b1 with | false => rfl | true => exact absurd ((RightT.same hS).1 (r2.1 rfl)) hR
    subst hb1; subst hb2
    have p3 : tat_res w y t = some (0, 0, 0) := by unfold tat_res; rw [r1, r1']; rfl
    have p4 : tat_v w y t = (0, 0, 0) := by unfold tat_v; rw [p3]; rfl
    have q3 : rat_res w x t = some (0, 0, 0) := by unfold rat_res; rw [s1, s1']; rfl
    have q4 : rat_v w x t = (0, 0, 0) := by unfold rat_v; rw [q3]; rfl
    rw [cond_not h60, k1, r1, r1', s1, s1', p3, q3, p4, q4]
    simp
theorem ltv_call (w : Int) (x : List (List Ct)) (t : Int) : CallOk Try.prog 3 [.sv (.agg [.val false (.int .i64 w), .ext 0]), .sv (.one (.val false (.int .i64 t)))] [(0, .grid [.int .i64, .int .i64, .int .i64, .int .i64] x)] 1 (ltv_O true) := ltv_tree (ltv_true w x t)
end Go.Proofs.Ytlcgjkljeggjhaa
