/- The law OrbitTurns: it answers true. No condition. -/
import Derived.Test.YtigjlhhglhbbpaaOrbitTurns
set_option linter.unusedVariables false
set_option linter.unusedSimpArgs false
namespace Go.Proofs.Ytigjlhhglhbbpaa
open Go.RowKit

theorem right_both {w : Int} {x : List (List Ct)} : ∃ b, (trt_res w (cK x)).isSome = true ∧ trt_v w (cK x) = b ∧ (rrt_res w x).isSome = true ∧ rrt_v w x = b ∧ (b = true → RightT w x) := by
  obtain ⟨b1, ⟨h1, h1'⟩, h2⟩ := trt_is (w := w) (l := cK x)
  obtain ⟨b2, ⟨h3, h3'⟩, h4⟩ := rrt_is (w := w) (l := x)
  have hb : b1 = b2 := by
    have : b1 = true ↔ b2 = true := by rw [h2, h4, RightT.same (same4_of kOf_cK)]
    cases b1 <;> cases b2 <;> simp_all
  subst hb
  exact ⟨b1, by rw [h1]; rfl, h1', by rw [h3]; rfl, h3', h4.1⟩
/-- What both ways of a turn answer. -/
structure Both (p q : Option (Int × Int × List (List Ct))) (w' e : Int) (r s : List (List Ct)) : Prop where
  p : p = some (w', e, r)
  q : q = some (w', e, s)
  k : kOf r = kOf s
  l : r.length ≤ 40
theorem later_ok {w : Int} {x : List (List Ct)} {b : Int} (hx : x.length ≤ 40) : ∃ w' e r s, Both (ola_res w (cK x) b) (rla_res w x b) w' e r s := by
  obtain ⟨c, r1, r2, r3, r4, r5⟩ := right_both (w := w) (x := x)
  cases c with
  | false => exact ⟨0, 1, [], [], by simp only [ola_res, r1, r2, Bool.not_false, cond_true], by simp only [rla_res, r3, r4, Bool.not_false, cond_true], rfl, by simp⟩
  | true =>
  have hR := r5 rfl
  have hn := hR.n0
  have hn1 := hR.n1
  by_cases c1 : b < -2097152
  · exact ⟨0, 1, [], [], by simp only [ola_res, r1, r2, Bool.not_true, cond_true, cond_false, cond_dec c1], by simp only [rla_res, r3, r4, Bool.not_true, cond_true, cond_false, cond_dec c1], rfl, by simp⟩
  by_cases c2 : b > 2097152
  · exact ⟨0, 1, [], [], by simp only [ola_res, r1, r2, Bool.not_true, cond_true, cond_false, cond_not c1, cond_dec c2], by simp only [rla_res, r3, r4, Bool.not_true, cond_true, cond_false, cond_not c1, cond_dec c2], rfl, by simp⟩
  have hl : (cK x).length = x.length := cK_length
  obtain ⟨a1, a2⟩ := ola_rows (P := cK x) (b := b) (by omega)
  obtain ⟨b1, b2⟩ := rla_rows (x := x) (b := b) (by omega)
  have ha : (ola_L0_v (cK x) b).2.length = x.length := by rw [← kOf_length, a2, mapI_length, kOf_length, hl]
  obtain ⟨w', e, r, s, ⟨t1, t2⟩, ⟨t3, t4⟩, t5, t6, _, _⟩ := make_ok (w := w) (a := (ola_L0_v (cK x) b).2) (b := (rla_L0_v x b).2) (by omega) (by omega) (stb_few (by omega) (by omega)) (by rw [a2, b2, kOf_cK])
  have q0 : 0 < (cK x).length := by omega
  have q1 : 0 + (cK x).length ≤ 9223372036854775807 ∧ (0 + (cK x).length) * 32 ≤ 140737488355328 := by omega
  refine ⟨w', e, r, s, ?_, ?_, t5, t6⟩
  · simp only [ola_res, r1, r2, Bool.not_true, cond_true, cond_false, cond_not c1, cond_not c2, cond_dec q0, cond_dec q1, a1, t1, t2, Option.isSome_some]
  · simp only [rla_res, r3, r4, Bool.not_true, cond_true, cond_false, cond_not c1, cond_not c2, b1, t3, t4, Option.isSome_some]
theorem back_ok {w : Int} {x : List (List Ct)} (hx : x.length ≤ 40) : ∃ w' e r s, Both (oba_res w (cK x)) (rba_res w x) w' e r s := by
  obtain ⟨c, r1, r2, r3, r4, r5⟩ := right_both (w := w) (x := x)
  cases c with
  | false => exact ⟨0, 1, [], [], by simp only [oba_res, r1, r2, Bool.not_false, cond_true], by simp only [rba_res, r3, r4, Bool.not_false, cond_true], rfl, by simp⟩
  | true =>
  have hR := r5 rfl
  have hn := hR.n0
  have hn1 := hR.n1
  have hl : (cK x).length = x.length := cK_length
  obtain ⟨a1, a2⟩ := oba_rows (P := cK x) (by omega) (by omega)
  have hO : (oba_L0_v (cK x)).2.length = x.length := by rw [← kOf_length, a2, mapI_length, kOf_length, hl]
  obtain ⟨p, p1, p2, p3⟩ := srv_ok (P := (oba_L0_v (cK x)).2) (by omega) (by omega)
  obtain ⟨b1, b2⟩ := rba_rows (x := x) (by omega) (by omega)
  have hp : p.length = x.length := by rw [← kOf_length, p3, List.length_reverse, kOf_length, hO]
  have e0 : (rd (cK x) 0 0).int = (rd x 0 0).int := (cK_rd (by omega)).1
  have e1 : (rd (cK x) (x.length - 1) 0).int = (rd x (x.length - 1) 0).int := (cK_rd (by omega)).1
  obtain ⟨w', e, r, s, ⟨t1, t2⟩, ⟨t3, t4⟩, t5, t6, _, _⟩ := make_ok (w := w) (a := p) (b := (rba_L0_v x).2) (by omega) (by omega) (stb_few (by omega) (by omega)) (by rw [p3, a2, b2, kOf_cK, hl, e0, e1])
  have q0 : 0 < (cK x).length := by omega
  have q1 : 0 + (cK x).length ≤ 9223372036854775807 ∧ (0 + (cK x).length) * 32 ≤ 140737488355328 := by omega
  have q2 : (0 : Int) ≤ 0 ∧ (0 : Int) < ((cK x).length : Int) := by omega
  have w1 : IntKind.i64.wrap (((cK x).length : Int) - 1) = ((cK x).length : Int) - 1 := wrap_in (by omega) (by omega)
  have q3 : (0 : Int) ≤ ((cK x).length : Int) - 1 ∧ ((cK x).length : Int) - 1 < ((cK x).length : Int) := by omega
  refine ⟨w', e, r, s, ?_, ?_, t5, t6⟩
  · simp only [oba_res, r1, r2, Bool.not_true, cond_true, cond_false, cond_dec q0, cond_dec q1, List.nil_append, cond_dec q2, w1, cond_dec q3, a1, p1, p2, t1, t2, Option.isSome_some]
  · simp only [rba_res, r3, r4, Bool.not_true, cond_true, cond_false, b1, t3, t4, Option.isSome_some]
theorem shaken_ok {w : Int} {x : List (List Ct)} {s b : Int} (hs : (Lit.int IntKind.u64 s).wf = true) (hx : x.length ≤ 40) : ∃ w' e r q, Both (osk_res w (cK x) s b) (rsk_res w x s b) w' e r q := by
  obtain ⟨c, r1, r2, r3, r4, r5⟩ := right_both (w := w) (x := x)
  cases c with
  | false => exact ⟨0, 1, [], [], by simp only [osk_res, r1, r2, Bool.not_false, cond_true], by simp only [rsk_res, r3, r4, Bool.not_false, cond_true], rfl, by simp⟩
  | true =>
  have hR := r5 rfl
  have hn := hR.n0
  have hn1 := hR.n1
  have hl : (cK x).length = x.length := cK_length
  obtain ⟨a1, a2⟩ := osk_rows (P := cK x) (b := b) hs (by omega)
  obtain ⟨b1, b2⟩ := rsk_rows (x := x) (b := b) hs (by omega)
  have ha : (osk_L0_v (cK x) s b).2.length = x.length := by rw [← kOf_length, a2, mapI_length, kOf_length, hl]
  obtain ⟨w', e, r, q, ⟨t1, t2⟩, ⟨t3, t4⟩, t5, t6, _, _⟩ := make_ok (w := w) (a := (osk_L0_v (cK x) s b).2) (b := (rsk_L0_v x s b).2) (by omega) (by omega) (stb_few (by omega) (by omega)) (by rw [a2, b2, kOf_cK])
  have q0 : 0 < (cK x).length := by omega
  have q1 : 0 + (cK x).length ≤ 9223372036854775807 ∧ (0 + (cK x).length) * 32 ≤ 140737488355328 := by omega
  refine ⟨w', e, r, q, ?_, ?_, t5, t6⟩
  · simp only [osk_res, r1, r2, Bool.not_true, cond_true, cond_false, cond_dec q0, cond_dec q1, a1, t1, t2, Option.isSome_some]
  · simp only [rsk_res, r3, r4, Bool.not_true, cond_true, cond_false, b1, t3, t4, Option.isSome_some]
/-- How far it is from a key to the next one, and along the first keys. -/
noncomputable def legS (x : List (List Ct)) (k : Nat) : Int := rootS (addS (addS (addS 0 (mulS (subS (rd x (k + 1) 1).int (rd x k 1).int) (subS (rd x (k + 1) 1).int (rd x k 1).int))) (mulS (subS (rd x (k + 1) 2).int (rd x k 2).int) (subS (rd x (k + 1) 2).int (rd x k 2).int))) (mulS (subS (rd x (k + 1) 3).int (rd x k 3).int) (subS (rd x (k + 1) 3).int (rd x k 3).int)))
noncomputable def wayS (x : List (List Ct)) : Nat → Int
  | 0 => 0
  | k + 1 => addS (wayS x k) (legS x k)
theorem olg_rows {P : List (List Ct)} (h1 : 1 ≤ P.length) (hb : P.length ≤ 1048576) : olg_L0_p P = true ∧ (olg_L0_v P).1 = wayS P (P.length - 1) := by
  have hr : (partOf P (1 : Int) (P.length : Int)).length = P.length - 1 := rest_length
  have h := iter_run (step := olg_L0_step P) (n := P.length - 1) (m := P.length + 1) (r := (wayS P (P.length - 1), ((P.length - 1 : Nat) : Int))) (v := (0, 0)) (fun k => (wayS P k, (k : Int))) rfl (fun k hk => by
    have q : (k : Int) < ((P.length - 1 : Nat) : Int) := by omega
    have q2 : (0 : Int) ≤ (k : Int) ∧ (k : Int) < ((P.length - 1 : Nat) : Int) := by omega
    have q3 : (0 : Int) ≤ (k : Int) ∧ (k : Int) < (P.length : Int) := by omega
    have e : ∀ j, rd (partOf P (1 : Int) (P.length : Int)) k j = rd P (k + 1) j := fun j => rd_rest hk
    simp only [olg_L0_step, hr, cond_dec q, cond_dec q2, cond_dec q3, Int.toNat_natCast, e, wrap_succ (k := k) (by omega), wayS, legS]) (by
    have q : ¬ (((P.length - 1 : Nat) : Int) < ((P.length - 1 : Nat) : Int)) := by omega
    simp only [olg_L0_step, hr, cond_not q]) (by omega)
  exact ⟨by unfold olg_L0_p; rw [h]; rfl, by unfold olg_L0_v loopRes; rw [h]; rfl⟩
theorem rlg_rows {x : List (List Ct)} (h1 : 1 ≤ x.length) (hb : x.length ≤ 1048576) : rlg_L0_p x = true ∧ (rlg_L0_v x).1 = wayS x (x.length - 1) := by
  have h := iter_run (step := rlg_L0_step x) (n := x.length - 1) (m := x.length + 1) (r := (wayS x (x.length - 1), ((x.length - 1 + 1 : Nat) : Int))) (v := (0, 1)) (fun k => (wayS x k, ((k + 1 : Nat) : Int))) rfl (fun k hk => by
    have q : ((k + 1 : Nat) : Int) < (x.length : Int) := by omega
    have q2 : (0 : Int) ≤ ((k + 1 : Nat) : Int) ∧ ((k + 1 : Nat) : Int) < (x.length : Int) := by omega
    have w : IntKind.i64.wrap (((k + 1 : Nat) : Int) - 1) = (k : Int) := by rw [wrap_in (by omega) (by omega)]; omega
    have q3 : (0 : Int) ≤ (k : Int) ∧ (k : Int) < (x.length : Int) := by omega
    simp only [rlg_L0_step, cond_dec q, cond_dec q2, w, cond_dec q3, Int.toNat_natCast, wrap_succ (k := k + 1) (by omega), wayS, legS]) (by
    have q : ¬ (((x.length - 1 + 1 : Nat) : Int) < (x.length : Int)) := by omega
    simp only [rlg_L0_step, cond_not q]) (by omega)
  exact ⟨by unfold rlg_L0_p; rw [h]; rfl, by unfold rlg_L0_v loopRes; rw [h]; rfl⟩
theorem wayS_congr {x y : List (List Ct)} (h : kOf x = kOf y) : ∀ k, k < x.length → wayS x k = wayS y k := by
  obtain ⟨hl, hc⟩ := kOf_same h
  intro k
  induction k with
  | zero => intro _; rfl
  | succ k ih =>
    intro hk
    obtain ⟨_, e1, e2, e3⟩ := hc k (by omega)
    obtain ⟨_, f1, f2, f3⟩ := hc (k + 1) (by omega)
    simp only [wayS, legS, ih (by omega), e1, e2, e3, f1, f2, f3]
theorem long_ok {w : Int} {x : List (List Ct)} (hx : x.length ≤ 40) : ∃ v, olg_res w (cK x) = some v ∧ rlg_res w x = some v := by
  obtain ⟨c, r1, r2, r3, r4, r5⟩ := right_both (w := w) (x := x)
  cases c with
  | false => exact ⟨0, by simp only [olg_res, r1, r2, Bool.not_false, cond_true], by simp only [rlg_res, r3, r4, Bool.not_false, cond_true]⟩
  | true =>
  have hR := r5 rfl
  have hn := hR.n0
  have hn1 := hR.n1
  have hl : (cK x).length = x.length := cK_length
  obtain ⟨a1, a2⟩ := olg_rows (P := cK x) (by omega) (by omega)
  obtain ⟨b1, b2⟩ := rlg_rows (x := x) (by omega) (by omega)
  have q : (0 : Int) ≤ 1 ∧ (1 : Int) ≤ ((cK x).length : Int) ∧ ((cK x).length : Int) ≤ ((cK x).length : Int) := by omega
  refine ⟨wayS x (x.length - 1), ?_, ?_⟩
  · simp only [olg_res, r1, r2, Bool.not_true, cond_true, cond_false, cond_dec q, a1, a2]
    rw [hl, wayS_congr kOf_cK _ (by omega)]
  · simp only [rlg_res, r3, r4, Bool.not_true, cond_true, cond_false, b1, b2]
theorem ltu_true (w : Int) (x : List (List Ct)) (b s seed : Int) (hs : (Lit.int IntKind.u64 seed).wf = true) : ltu_res w x b s seed = some true := by
  by_cases h40 : (x.length : Int) > 40
  · unfold ltu_res; rw [cond_dec h40]
  obtain ⟨k1, k2⟩ := tky_ok (x := x) (by omega)
  obtain ⟨w1, e1, r1, s1, A⟩ := later_ok (w := w) (x := x) (b := b) (by omega)
  obtain ⟨w2, e2, r2, s2, B⟩ := back_ok (w := w) (x := x) (by omega)
  obtain ⟨w3, e3, r3, s3, C⟩ := shaken_ok (w := w) (x := x) (s := seed) (b := s) hs (by omega)
  obtain ⟨v, l1, l2⟩ := long_ok (w := w) (x := x) (by omega)
  have A1 : ola_v w (cK x) b = (w1, e1, r1) := by unfold ola_v; rw [A.p]; rfl
  have A2 : rla_v w x b = (w1, e1, s1) := by unfold rla_v; rw [A.q]; rfl
  have B1 : oba_v w (cK x) = (w2, e2, r2) := by unfold oba_v; rw [B.p]; rfl
  have B2 : rba_v w x = (w2, e2, s2) := by unfold rba_v; rw [B.q]; rfl
  have C1 : osk_v w (cK x) seed s = (w3, e3, r3) := by unfold osk_v; rw [C.p]; rfl
  have C2 : rsk_v w x seed s = (w3, e3, s3) := by unfold rsk_v; rw [C.q]; rfl
  have L1 : olg_v w (cK x) = v := by unfold olg_v; rw [l1]; rfl
  have L2 : rlg_v w x = v := by unfold rlg_v; rw [l2]; rfl
  have al := A.l; have bl := B.l; have cl := C.l
  obtain ⟨i1, i2, i3⟩ := is_ok (w := w1) A.k (by omega)
  obtain ⟨j1, j2, j3⟩ := is_ok (w := w2) B.k (by omega)
  obtain ⟨m1, m2, m3⟩ := is_ok (w := w3) C.k (by omega)
  obtain ⟨n1, n2, n3⟩ := is_ok (w := w) (r := cK x) (s := x) kOf_cK (by rw [cK_length]; omega)
  unfold ltu_res
  simp only [cond_not h40, k1, k2, A.p, A.q, B.p, B.q, C.p, C.q, l1, l2, A1, A2, B1, B2, C1, C2, L1, L2, Option.isSome_some, cond_true, beq_self_eq_true, i1, i2, i3, j1, j2, j3, m1, m2, m3, n1, n2, n3]
theorem ltu_call (w : Int) (x : List (List Ct)) (b s seed : Int) (hs : (Lit.int IntKind.u64 seed).wf = true) : CallOk Try.prog 6 [.sv (.agg [.val false (.int .i64 w), .ext 0]), .sv (.one (.val false (.int .i64 b))), .sv (.one (.val false (.int .i64 s))), .sv (.one (.val false (.int .u64 seed)))] [(0, .grid [.int .i64, .int .i64, .int .i64, .int .i64] x)] 1 (ltu_O true) := ltu_tree (ltu_true w x b s seed hs)
end Go.Proofs.Ytigjlhhglhbbpaa
