/- The law TrackMeets: it answers true for all values of bulk. The bound is the statement's own. -/
import Derived.Test.YtlcgjkljeggjhaaTrackLaw
import Derived.Test.YtlcgjkljeggjhaaTrackMeetsT
set_option linter.unusedVariables false
set_option linter.unusedSimpArgs false
namespace Go.Proofs.Ytlcgjkljeggjhaa
open Go.RowKit

theorem divS_zero (b : Int) : divS 0 b = 0 := by
  unfold divS
  have h0 : heldS 0 = 0 := heldS_id (by omega) (by omega)
  rw [h0]
  split
  · rfl
  · simp [h0]
theorem easeS_zero : easeS 0 = 0 := by decide +kernel
theorem lerpS_zero {a : Int} (b : Int) (h : -2147483648 ≤ a ∧ a ≤ 2147483648) : lerpS a b 0 = a := by
  have hu : unS 0 = 0 := rfl
  unfold lerpS
  rw [hu, Int.mul_zero, heldS_id (n := a) h.1 h.2]
  simp
  exact heldS_id h.1 h.2
theorem at_key {w : Int} {l : List (List Ct)} (h : RightT w l) {k : Nat} (hk : k < l.length) {p : Int} (hp : PlaceT l (rd l k 0).int p) {j : Nat} (h1 : 1 ≤ j) (h4 : j < 4) : atJ w l (rd l k 0).int p j = (rd l k j).int := by
  have hpk : p = (k : Int) := by
    refine hp.uniq ⟨by omega, by omega, fun i hi => ?_, fun i hi hl => h.mono (by omega) hl⟩
    by_cases hik : i = k
    · subst hik; omega
    · have := h.mono (i := i) (j := k) (by omega) hk; omega
  subst hpk
  unfold atJ
  rw [if_neg (by omega)]
  by_cases c : (k : Int) = (l.length : Int) - 1 ∨ w = 0
  · rw [if_pos c, Int.toNat_natCast]
  · rw [if_neg c]
    have hz : atP w l (rd l k 0).int (k : Int) = 0 := by
      unfold atP
      simp only [Int.toNat_natCast, Int.sub_self]
      rw [show IntKind.i64.wrap 0 = 0 from rfl, divS_zero]
      split
      · exact easeS_zero
      · rfl
    rw [hz, Int.toNat_natCast]
    exact lerpS_zero _ ((h.ok k hk).v j h1 h4)
theorem between {w t p : Int} {l : List (List Ct)} (h : RightT w l) (h0 : 0 ≤ p) (hp1 : p + 1 < l.length) {j : Nat} (h1 : 1 ≤ j) (h4 : j < 4) :
    (¬ atJ w l t p j < if (rd l (p.toNat + 1) j).int < (rd l p.toNat j).int then (rd l (p.toNat + 1) j).int else (rd l p.toNat j).int) ∧ (¬ atJ w l t p j > if (rd l (p.toNat + 1) j).int > (rd l p.toNat j).int then (rd l (p.toNat + 1) j).int else (rd l p.toNat j).int) := by
  have ha := (h.ok p.toNat (by omega)).v j h1 h4
  have hb := (h.ok (p.toNat + 1) (by omega)).v j h1 h4
  unfold atJ
  rw [if_neg (by omega)]
  by_cases c : p = (l.length : Int) - 1 ∨ w = 0
  · rw [if_pos c]
    constructor <;> split <;> omega
  · rw [if_neg c]
    have m1 := lerp_min (rd l p.toNat j).int (rd l (p.toNat + 1) j).int (atP w l t p)
    have m2 := lerp_max (rd l p.toNat j).int (rd l (p.toNat + 1) j).int (atP w l t p)
    rw [heldS_id ha.1 ha.2, heldS_id hb.1 hb.2] at m1 m2
    exact ⟨m1, m2⟩
theorem ltm_true (w : Int) (x : List (List Ct)) (t : Int) (hx : x.length ≤ 1048576) : ltm_res w x t = some true := by
  unfold ltm_res
  obtain ⟨k1, hS⟩ := tky_is hx
  by_cases h60 : (x.length : Int) > 60
  · rw [k1, cond_dec h60]; rfl
  obtain ⟨b1, ⟨r1, r1'⟩, r2⟩ := trt_is (w := w) (l := tky_v x)
  by_cases hR : RightT w x
  · obtain rfl : b1 = true := r2.2 ((RightT.same hS).2 hR)
    have hRy := (RightT.same hS).2 hR
    have hn := hR.n0
    have hn1 := hR.n1
    have hstep : ∀ k, k < (tky_v x).length → ((fun _ : Nat => True) k → ltm_L0_step w x t (k : Int) = some (.inl ((k : Int) + 1))) ∧ (¬ (fun _ : Nat => True) k → ltm_L0_step w x t (k : Int) = some (.inr (.inr ()))) := by
      intro k hk
      refine ⟨fun _ => ?_, fun h => absurd trivial h⟩
      have q : (k : Int) < ((tky_v x).length : Int) := by omega
      have q2 : (0 : Int) ≤ (k : Int) ∧ (k : Int) < ((tky_v x).length : Int) := by omega
      have hl := hS.len
      have w1 : IntKind.i64.wrap ((k : Int) + 1) = (k : Int) + 1 := wrap_in (by omega) (by omega)
      obtain ⟨p, p1, p2, p3, p4⟩ := tat_is (t := (rd (tky_v x) k 0).int) hRy
      rw [at_key hRy hk p1 (by omega) (by omega), at_key hRy hk p1 (by omega) (by omega), at_key hRy hk p1 (by omega) (by omega)] at p3 p4
      simp only [ltm_L0_step, cond_dec q, cond_dec q2, Int.toNat_natCast, p3, p4, w1, Option.isSome_some, cond_true, beq_self_eq_true, Bool.and_self, Bool.not_true, cond_false]
    obtain ⟨r, g1, g2⟩ := iter_chk (step := ltm_L0_step w x t) (n := (tky_v x).length) (m := x.length + 1) (c := fun _ => True) hstep (by
      have q : ¬ (((tky_v x).length : Int) < ((tky_v x).length : Int)) := by omega
      simp only [ltm_L0_step, cond_not q]) (by have := hS.len; omega)
    have s1 : ltm_L0_p w x t = true := by unfold ltm_L0_p; rw [g1]; rfl
    have s2 : ltm_L0_v w x t = r := by unfold ltm_L0_v; rw [g1]; rfl
    have s3 : isL r = true := g2.2 fun _ _ => trivial
    obtain ⟨p, p1, p2, p3, p4⟩ := tat_is (t := t) hRy
    obtain ⟨p', ⟨p5, p6⟩, p7⟩ := tpl_is (t := t) hRy
    have pS := p1.same hS
    have e1 := atJ_same hS (w := w) (t := t) hn pS.p0 pS.p1 (j := 1) (by omega)
    have e2 := atJ_same hS (w := w) (t := t) hn pS.p0 pS.p1 (j := 2) (by omega)
    have e3 := atJ_same hS (w := w) (t := t) hn pS.p0 pS.p1 (j := 3) (by omega)
    rw [e1, e2, e3] at p3 p4
    have a1 := pS.p0
    have a2 := pS.p1
    have w1 : IntKind.i64.wrap (((tky_v x).length : Int) - 1) = (x.length : Int) - 1 := by rw [hS.len]; exact wrap_in (by omega) (by omega)
    rw [k1, cond_not h60, r1, r1', s1, s2, s3, p5, p2, w1, p3, p4]
    simp only [Option.isSome_some, cond_true, Bool.not_true, cond_false]
    by_cases c0 : p < 0
    · rw [cond_dec c0]
    rw [cond_not c0]
    by_cases c1 : p = (x.length : Int) - 1
    · rw [show (p == (x.length : Int) - 1) = true by simpa using c1]; rfl
    rw [show (p == (x.length : Int) - 1) = false by simpa using c1, cond_false]
    have q : (0 : Int) ≤ p ∧ p < (x.length : Int) := by omega
    have w2 : IntKind.i64.wrap (p + 1) = p + 1 := wrap_in (by omega) (by omega)
    have q2 : (0 : Int) ≤ p + 1 ∧ p + 1 < (x.length : Int) := by omega
    have e : (p + 1).toNat = p.toNat + 1 := by omega
    have b1 := between (t := t) hR q.1 q2.2 (j := 1) (by omega) (by omega)
    have b2 := between (t := t) hR q.1 q2.2 (j := 2) (by omega) (by omega)
    have b3 := between (t := t) hR q.1 q2.2 (j := 3) (by omega) (by omega)
    rw [w2, cond_dec q, cond_dec q2]
    simp only [e]
    rw [cond_not b1.1, cond_not b1.2, cond_not b2.1, cond_not b2.2, cond_not b3.1, cond_not b3.2]
  · have hb1 : b1 = false := by cases b1 with | false => rfl | true => exact absurd ((RightT.same hS).1 (r2.1 rfl)) hR
    subst hb1
    rw [k1, cond_not h60, r1, r1']
    rfl
theorem ltm_call (w : Int) (x : List (List Ct)) (t : Int) (hx : x.length ≤ 1048576) : CallOk Try.prog 4 [.sv (.agg [.val false (.int .i64 w), .ext 0]), .sv (.one (.val false (.int .i64 t)))] [(0, .grid [.int .i64, .int .i64, .int .i64, .int .i64] x)] 1 (ltm_O true) := ltm_tree (ltm_true w x t hx)
end Go.Proofs.Ytlcgjkljeggjhaa
