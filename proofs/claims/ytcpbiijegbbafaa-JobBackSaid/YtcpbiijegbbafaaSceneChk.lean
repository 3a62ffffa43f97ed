/- Scenes in plain numbers: the first rule that is broken. No condition. -/
import Derived.Test.YtcpbiijegbbafaaSceneLaw
set_option linter.unusedVariables false
set_option linter.unusedSimpArgs false
namespace Go.Proofs.Ytcpbiijegbbafaa
open Go.RowKit

theorem dec_pos {a : Int} : decide (a > 0) = decide (a ≥ 1) := decide_eq_decide.2 (by omega)
theorem dec_lt {a b : Int} (h : -9223372036854775808 ≤ b - 1) (h' : b - 1 ≤ 9223372036854775807) : decide (a ≤ IntKind.i64.wrap (b - 1)) = decide (a < b) := by rw [wrap_in h h']; exact decide_eq_decide.2 (by omega)
theorem shr_ok {a b c d e f g h i : Int} : (shr_res a b c d e f g h i).isSome = true ∧ rhr_res a b c d e f g h i = shr_res a b c d e f g h i ∧ rhr_v a b c d e f g h i = shr_v a b c d e f g h i := by
  refine ⟨?_, rfl, rfl⟩
  simp only [shr_res, isSome_cond, Option.isSome_some, cond_same]
theorem spr_ok {a b c d e : Int} : (spr_res a b c d e).isSome = true ∧ rpr_res a b c d e = spr_res a b c d e ∧ rpr_v a b c d e = spr_v a b c d e := by
  refine ⟨?_, rfl, rfl⟩
  simp only [spr_res, isSome_cond, Option.isSome_some, cond_same]
theorem sjo_ok {T J : List (List Ct)} {k : Nat} (hk : k < J.length) (hb : J.length ≤ 1048576) : (sjo_res (cT T) (cJ J) (k : Int)).isSome = true ∧ rjo_res T J (k : Int) = sjo_res (cT T) (cJ J) (k : Int) ∧ rjo_v T J (k : Int) = sjo_v (cT T) (cJ J) (k : Int) := by
  have q : (0 : Int) ≤ (k : Int) ∧ (k : Int) < (J.length : Int) := by omega
  have e := cJ_rd hk
  have main : rjo_res T J (k : Int) = sjo_res (cT T) (cJ J) (k : Int) := by
    simp only [rjo_res, sjo_res, cT_length, cJ_length, Int.toNat_natCast, e, dec_pos]
  refine ⟨?_, main, by unfold rjo_v sjo_v; rw [main]⟩
  simp only [sjo_res, cT_length, cJ_length, cond_dec q, isSome_cond, Option.isSome_some, cond_same]
theorem sle_ok {a b c : Int} {T : List (List Ct)} : (sle_res a b c (cT T)).isSome = true ∧ rle_res a b c T = sle_res a b c (cT T) ∧ rle_v a b c T = sle_v a b c (cT T) := by
  have main : rle_res a b c T = sle_res a b c (cT T) := by simp only [rle_res, sle_res, cT_length, dec_pos]
  refine ⟨?_, main, by unfold rle_v sle_v; rw [main]⟩
  simp only [sle_res, isSome_cond, Option.isSome_some, cond_same]
theorem ssh_ok {P J : List (List Ct)} {c0 c1 c2 c3 c4 c5 c6 c7 c8 c9 c10 c11 c12 : Int} : (ssh_res (cP P) (cJ J) c0 c1 c2 c3 c4 c5 c6 c7 c8 c9 c10 c11 c12).isSome = true ∧ rsh_res P J c0 c1 c2 c3 c4 c5 c6 c7 c8 c9 c10 c11 c12 = ssh_res (cP P) (cJ J) c0 c1 c2 c3 c4 c5 c6 c7 c8 c9 c10 c11 c12 ∧ rsh_v P J c0 c1 c2 c3 c4 c5 c6 c7 c8 c9 c10 c11 c12 = ssh_v (cP P) (cJ J) c0 c1 c2 c3 c4 c5 c6 c7 c8 c9 c10 c11 c12 := by
  have main : rsh_res P J c0 c1 c2 c3 c4 c5 c6 c7 c8 c9 c10 c11 c12 = ssh_res (cP P) (cJ J) c0 c1 c2 c3 c4 c5 c6 c7 c8 c9 c10 c11 c12 := by
    by_cases k0 : c2 = 0
    · subst k0
      simp only [rsh_res, ssh_res, cP_length, cJ_length, dec_pos]
      rfl
    by_cases k1 : c2 = 1
    · subst k1
      simp only [rsh_res, ssh_res, cP_length, cJ_length, dec_pos]
      rfl
    have e0 : (c2 == 0) = false := by simpa using k0
    have e1 : (c2 == 1) = false := by simpa using k1
    have e2 : (bif decide (c2 ≥ (0 : Int)) then (bif (!decide (c2 ≤ (1 : Int))) then (some false) else none) else some false) = some false := by
      by_cases h : c2 ≥ 0
      · rw [cond_dec h, decide_eq_false (by omega)]; rfl
      · rw [cond_not h]
    by_cases h : c2 ≥ 0
    · have e3 : decide (c2 ≤ (1 : Int)) = false := decide_eq_false (by omega)
      simp only [rsh_res, ssh_res, e0, e1, e3, Bool.not_false, cond_true, cond_false, cond_same]
    · have e3 : decide (c2 ≥ (0 : Int)) = false := decide_eq_false h
      simp only [rsh_res, ssh_res, e0, e1, e3, cond_false, cond_same]
  refine ⟨?_, main, by unfold rsh_v ssh_v; rw [main]⟩
  simp only [ssh_res, isSome_cond, Option.isSome_some, cond_same]
theorem trt_both {w : Int} {l : List (List Ct)} : (trt_res w (cK l)).isSome = true ∧ (rrt_res w l).isSome = true ∧ rrt_v w l = trt_v w (cK l) := by
  obtain ⟨b1, ⟨h1, h1'⟩, h2⟩ := trt_is (w := w) (l := cK l)
  obtain ⟨b2, ⟨h3, h3'⟩, h4⟩ := rrt_is (w := w) (l := l)
  have hs : Same4 (cK l) l := ⟨cK_length, fun i hi j hj => by
    obtain ⟨e0, e1, e2, e3⟩ := cK_rd hi
    have c : j = 0 ∨ j = 1 ∨ j = 2 ∨ j = 3 := by omega
    rcases c with rfl | rfl | rfl | rfl <;> assumption⟩
  refine ⟨by rw [h1]; rfl, by rw [h3]; rfl, ?_⟩
  rw [h1', h3']
  have : b2 = true ↔ b1 = true := by rw [h4, h2, RightT.same hs]
  cases b1 <;> cases b2 <;> simp_all
/-- What a search answers. -/
def optI : Option Nat → Int
  | some k => k
  | none => -1
noncomputable def badP (P : List (List Ct)) (k : Nat) : Bool := !spr_v (rd P k 0).int (rd P k 1).int (rd P k 2).int (rd P k 3).int (rd P k 4).int
theorem al1_ok {P : List (List Ct)} (hb : P.length ≤ 1048576) : (al1_res (P.length : Int) (cP P)).isSome = true ∧ al1_v (P.length : Int) (cP P) = optI (findB (badP P) P.length 0) := by
  have h := iter_find (step := al1_L0_step (P.length : Int) (cP P)) (n := P.length) (m := (P.length : Int).toNat + 1) (badP P) (fun k => (k : Int)) (fun k hk => by
    have q : (k : Int) < (P.length : Int) := by omega
    have q2 : (0 : Int) ≤ (k : Int) ∧ (k : Int) < (P.length : Int) := by omega
    obtain ⟨e1, e2, e3⟩ := @spr_ok (rd P k 0).int (rd P k 1).int (rd P k 2).int (rd P k 3).int (rd P k 4).int
    simp only [al1_L0_step, cond_dec q, cP_length, cond_dec q2, Int.toNat_natCast, cP_rd hk, e1, cond_true, wrap_succ (k := k) (by omega)]
    unfold badP
    generalize spr_v (rd P k 0).int (rd P k 1).int (rd P k 2).int (rd P k 3).int (rd P k 4).int = b
    cases b <;> rfl) (by
    have q : ¬ ((P.length : Int) < (P.length : Int)) := by omega
    simp only [al1_L0_step, cond_not q]) (by rw [Int.toNat_natCast]; omega)
  have p1 : al1_L0_p (P.length : Int) (cP P) = true := by unfold al1_L0_p; rw [h]; rfl
  have p2 : al1_L0_v (P.length : Int) (cP P) = (match findB (badP P) P.length 0 with | some i => .inr (i : Int) | none => .inl (P.length : Int)) := by unfold al1_L0_v; rw [h]; rfl
  have hr : al1_res (P.length : Int) (cP P) = some (optI (findB (badP P) P.length 0)) := by
    unfold al1_res
    rw [p1, p2]
    cases findB (badP P) P.length 0 <;> rfl
  exact ⟨by rw [hr]; rfl, by unfold al1_v; rw [hr]; rfl⟩
theorem rch1_ok {P : List (List Ct)} (hb : P.length ≤ 1048576) : rch_L0_p P = true ∧ rch_L0_v P = (match findB (badP P) P.length 0 with | some i => .inr (i : Int) | none => .inl (P.length : Int)) := by
  have h := iter_find (step := rch_L0_step P) (n := P.length) (m := P.length + 1) (badP P) (fun k => (k : Int)) (fun k hk => by
    have q : (k : Int) < (P.length : Int) := by omega
    have q2 : (0 : Int) ≤ (k : Int) ∧ (k : Int) < (P.length : Int) := by omega
    obtain ⟨e1, e2, e3⟩ := @spr_ok (rd P k 0).int (rd P k 1).int (rd P k 2).int (rd P k 3).int (rd P k 4).int
    simp only [rch_L0_step, cond_dec q, cond_dec q2, Int.toNat_natCast, e2, e1, e3, cond_true, wrap_succ (k := k) (by omega)]
    unfold badP
    generalize spr_v (rd P k 0).int (rd P k 1).int (rd P k 2).int (rd P k 3).int (rd P k 4).int = b
    cases b <;> rfl) (by
    have q : ¬ ((P.length : Int) < (P.length : Int)) := by omega
    simp only [rch_L0_step, cond_not q]) (by omega)
  exact ⟨by unfold rch_L0_p; rw [h]; rfl, by unfold rch_L0_v; rw [h]; rfl⟩
noncomputable def badT (T : List (List Ct)) (k : Nat) : Bool := !trt_v (rd T k 0).int (cK (rd T k 1).rows)
theorem al2_ok {T : List (List Ct)} (hb : T.length ≤ 1048576) : (al2_res (T.length : Int) (cT T)).isSome = true ∧ al2_v (T.length : Int) (cT T) = optI (findB (badT T) T.length 0) := by
  have h := iter_find (step := al2_L0_step (T.length : Int) (cT T)) (n := T.length) (m := (T.length : Int).toNat + 1) (badT T) (fun k => (k : Int)) (fun k hk => by
    have q : (k : Int) < (T.length : Int) := by omega
    have q2 : (0 : Int) ≤ (k : Int) ∧ (k : Int) < (T.length : Int) := by omega
    obtain ⟨e1, e2, e3⟩ := @trt_both (rd T k 0).int (rd T k 1).rows
    simp only [al2_L0_step, cond_dec q, cT_length, cond_dec q2, Int.toNat_natCast, cT_rd hk, e1, cond_true, wrap_succ (k := k) (by omega)]
    unfold badT
    generalize trt_v (rd T k 0).int (cK (rd T k 1).rows) = b
    cases b <;> rfl) (by
    have q : ¬ ((T.length : Int) < (T.length : Int)) := by omega
    simp only [al2_L0_step, cond_not q]) (by rw [Int.toNat_natCast]; omega)
  have p1 : al2_L0_p (T.length : Int) (cT T) = true := by unfold al2_L0_p; rw [h]; rfl
  have p2 : al2_L0_v (T.length : Int) (cT T) = (match findB (badT T) T.length 0 with | some i => .inr (i : Int) | none => .inl (T.length : Int)) := by unfold al2_L0_v; rw [h]; rfl
  have hr : al2_res (T.length : Int) (cT T) = some (optI (findB (badT T) T.length 0)) := by
    unfold al2_res
    rw [p1, p2]
    cases findB (badT T) T.length 0 <;> rfl
  exact ⟨by rw [hr]; rfl, by unfold al2_v; rw [hr]; rfl⟩
theorem rch2_ok {T : List (List Ct)} (hb : T.length ≤ 1048576) : rch_L2_p T = true ∧ rch_L2_v T = (match findB (badT T) T.length 0 with | some i => .inr (i : Int) | none => .inl (T.length : Int)) := by
  have h := iter_find (step := rch_L2_step T) (n := T.length) (m := T.length + 1) (badT T) (fun k => (k : Int)) (fun k hk => by
    have q : (k : Int) < (T.length : Int) := by omega
    have q2 : (0 : Int) ≤ (k : Int) ∧ (k : Int) < (T.length : Int) := by omega
    obtain ⟨e1, e2, e3⟩ := @trt_both (rd T k 0).int (rd T k 1).rows
    simp only [rch_L2_step, cond_dec q, cond_dec q2, Int.toNat_natCast, e2, e3, cond_true, wrap_succ (k := k) (by omega)]
    unfold badT
    generalize trt_v (rd T k 0).int (cK (rd T k 1).rows) = b
    cases b <;> rfl) (by
    have q : ¬ ((T.length : Int) < (T.length : Int)) := by omega
    simp only [rch_L2_step, cond_not q]) (by omega)
  exact ⟨by unfold rch_L2_p; rw [h]; rfl, by unfold rch_L2_v; rw [h]; rfl⟩
noncomputable def badJ (T J : List (List Ct)) (k : Nat) : Bool := !sjo_v (cT T) (cJ J) (k : Int)
theorem al3_ok {T J : List (List Ct)} (hb : J.length ≤ 1048576) : (al3_res (J.length : Int) (cT T) (cJ J)).isSome = true ∧ al3_v (J.length : Int) (cT T) (cJ J) = optI (findB (badJ T J) J.length 0) := by
  have h := iter_find (step := al3_L0_step (J.length : Int) (cT T) (cJ J)) (n := J.length) (m := (J.length : Int).toNat + 1) (badJ T J) (fun k => (k : Int)) (fun k hk => by
    have q : (k : Int) < (J.length : Int) := by omega
    have q2 : (0 : Int) ≤ (k : Int) ∧ (k : Int) < (J.length : Int) := by omega
    obtain ⟨e1, e2, e3⟩ := sjo_ok (T := T) hk hb
    simp only [al3_L0_step, cond_dec q, cJ_length, cond_dec q2, Int.toNat_natCast, e1, cond_true, wrap_succ (k := k) (by omega)]
    unfold badJ
    generalize sjo_v (cT T) (cJ J) (k : Int) = b
    cases b <;> rfl) (by
    have q : ¬ ((J.length : Int) < (J.length : Int)) := by omega
    simp only [al3_L0_step, cond_not q]) (by rw [Int.toNat_natCast]; omega)
  have p1 : al3_L0_p (J.length : Int) (cT T) (cJ J) = true := by unfold al3_L0_p; rw [h]; rfl
  have p2 : al3_L0_v (J.length : Int) (cT T) (cJ J) = (match findB (badJ T J) J.length 0 with | some i => .inr (i : Int) | none => .inl (J.length : Int)) := by unfold al3_L0_v; rw [h]; rfl
  have hr : al3_res (J.length : Int) (cT T) (cJ J) = some (optI (findB (badJ T J) J.length 0)) := by
    unfold al3_res
    rw [p1, p2]
    cases findB (badJ T J) J.length 0 <;> rfl
  exact ⟨by rw [hr]; rfl, by unfold al3_v; rw [hr]; rfl⟩
theorem rch3_ok {T J : List (List Ct)} (hb : J.length ≤ 1048576) : rch_L4_p T J = true ∧ rch_L4_v T J = (match findB (badJ T J) J.length 0 with | some i => .inr (i : Int) | none => .inl (J.length : Int)) := by
  have h := iter_find (step := rch_L4_step T J) (n := J.length) (m := J.length + 1) (badJ T J) (fun k => (k : Int)) (fun k hk => by
    have q : (k : Int) < (J.length : Int) := by omega
    have q2 : (0 : Int) ≤ (k : Int) ∧ (k : Int) < (J.length : Int) := by omega
    obtain ⟨e1, e2, e3⟩ := sjo_ok (T := T) hk hb
    simp only [rch_L4_step, cond_dec q, cond_dec q2, Int.toNat_natCast, e2, e1, e3, cond_true, wrap_succ (k := k) (by omega)]
    unfold badJ
    generalize sjo_v (cT T) (cJ J) (k : Int) = b
    cases b <;> rfl) (by
    have q : ¬ ((J.length : Int) < (J.length : Int)) := by omega
    simp only [rch_L4_step, cond_not q]) (by omega)
  exact ⟨by unfold rch_L4_p; rw [h]; rfl, by unfold rch_L4_v; rw [h]; rfl⟩
noncomputable def badS (P J S : List (List Ct)) (k : Nat) : Bool := !ssh_v (cP P) (cJ J) (rd S k 0).int (rd S k 1).int (rd S k 2).int (rd S k 3).int (rd S k 4).int (rd S k 5).int (rd S k 6).int (rd S k 7).int (rd S k 8).int (rd S k 9).int (rd S k 10).int (rd S k 11).int (rd S k 12).int
theorem al4_ok {P J S : List (List Ct)} (hb : S.length ≤ 1048576) : (al4_res (S.length : Int) (cP P) (cJ J) (cS S)).isSome = true ∧ al4_v (S.length : Int) (cP P) (cJ J) (cS S) = optI (findB (badS P J S) S.length 0) := by
  have h := iter_find (step := al4_L0_step (S.length : Int) (cP P) (cJ J) (cS S)) (n := S.length) (m := (S.length : Int).toNat + 1) (badS P J S) (fun k => (k : Int)) (fun k hk => by
    have q : (k : Int) < (S.length : Int) := by omega
    have q2 : (0 : Int) ≤ (k : Int) ∧ (k : Int) < (S.length : Int) := by omega
    obtain ⟨e1, e2, e3⟩ := @ssh_ok P J (rd S k 0).int (rd S k 1).int (rd S k 2).int (rd S k 3).int (rd S k 4).int (rd S k 5).int (rd S k 6).int (rd S k 7).int (rd S k 8).int (rd S k 9).int (rd S k 10).int (rd S k 11).int (rd S k 12).int
    simp only [al4_L0_step, cond_dec q, cS_length, cond_dec q2, Int.toNat_natCast, cS_rd hk, e1, cond_true, wrap_succ (k := k) (by omega)]
    unfold badS
    generalize ssh_v (cP P) (cJ J) (rd S k 0).int (rd S k 1).int (rd S k 2).int (rd S k 3).int (rd S k 4).int (rd S k 5).int (rd S k 6).int (rd S k 7).int (rd S k 8).int (rd S k 9).int (rd S k 10).int (rd S k 11).int (rd S k 12).int = b
    cases b <;> rfl) (by
    have q : ¬ ((S.length : Int) < (S.length : Int)) := by omega
    simp only [al4_L0_step, cond_not q]) (by rw [Int.toNat_natCast]; omega)
  have p1 : al4_L0_p (S.length : Int) (cP P) (cJ J) (cS S) = true := by unfold al4_L0_p; rw [h]; rfl
  have p2 : al4_L0_v (S.length : Int) (cP P) (cJ J) (cS S) = (match findB (badS P J S) S.length 0 with | some i => .inr (i : Int) | none => .inl (S.length : Int)) := by unfold al4_L0_v; rw [h]; rfl
  have hr : al4_res (S.length : Int) (cP P) (cJ J) (cS S) = some (optI (findB (badS P J S) S.length 0)) := by
    unfold al4_res
    rw [p1, p2]
    cases findB (badS P J S) S.length 0 <;> rfl
  exact ⟨by rw [hr]; rfl, by unfold al4_v; rw [hr]; rfl⟩
theorem rch4_ok {P J S : List (List Ct)} (hb : S.length ≤ 1048576) : rch_L6_p P J S = true ∧ rch_L6_v P J S = (match findB (badS P J S) S.length 0 with | some i => .inr (i : Int) | none => .inl (S.length : Int)) := by
  have h := iter_find (step := rch_L6_step P J S) (n := S.length) (m := S.length + 1) (badS P J S) (fun k => (k : Int)) (fun k hk => by
    have q : (k : Int) < (S.length : Int) := by omega
    have q2 : (0 : Int) ≤ (k : Int) ∧ (k : Int) < (S.length : Int) := by omega
    obtain ⟨e1, e2, e3⟩ := @ssh_ok P J (rd S k 0).int (rd S k 1).int (rd S k 2).int (rd S k 3).int (rd S k 4).int (rd S k 5).int (rd S k 6).int (rd S k 7).int (rd S k 8).int (rd S k 9).int (rd S k 10).int (rd S k 11).int (rd S k 12).int
    simp only [rch_L6_step, cond_dec q, cond_dec q2, Int.toNat_natCast, e2, e1, e3, cond_true, wrap_succ (k := k) (by omega)]
    unfold badS
    generalize ssh_v (cP P) (cJ J) (rd S k 0).int (rd S k 1).int (rd S k 2).int (rd S k 3).int (rd S k 4).int (rd S k 5).int (rd S k 6).int (rd S k 7).int (rd S k 8).int (rd S k 9).int (rd S k 10).int (rd S k 11).int (rd S k 12).int = b
    cases b <;> rfl) (by
    have q : ¬ ((S.length : Int) < (S.length : Int)) := by omega
    simp only [rch_L6_step, cond_not q]) (by omega)
  exact ⟨by unfold rch_L6_p; rw [h]; rfl, by unfold rch_L6_v; rw [h]; rfl⟩
/-- Which shapes glow. -/
def glows (P S : List (List Ct)) (k : Nat) : Bool := decide ((rd S k 1).int ≥ 0) && (decide ((rd S k 1).int < (P.length : Int)) && (rd P (rd S k 1).int.toNat 0).int == 3)
theorem sla_step {P S : List (List Ct)} (hb : S.length ≤ 1048576) (hp : P.length ≤ 1048576) {k : Nat} (hk : k < S.length) {l : List (List Ct)} (hl : l.length ≤ k) : sla_L0_step (cP P) (cS S) ((k : Int), l) = some (.inl (((k + 1 : Nat) : Int), bif glows P S k then l ++ [[.i k]] else l)) := by
  have q : (k : Int) < (S.length : Int) := by omega
  have q2 : (0 : Int) ≤ (k : Int) ∧ (k : Int) < (S.length : Int) := by omega
  have q3 : l.length + [[Ct.i (k : Int)]].length ≤ 9223372036854775807 ∧ (l.length + [[Ct.i (k : Int)]].length) * 8 ≤ 140737488355328 := by simp only [List.length_cons, List.length_nil]; omega
  obtain ⟨e0, e1, _⟩ := cS_rd hk
  unfold glows
  by_cases h0 : (rd S k 1).int ≥ 0
  · by_cases h1 : (rd S k 1).int < (P.length : Int)
    · have q4 : (0 : Int) ≤ (rd S k 1).int ∧ (rd S k 1).int < (P.length : Int) := by omega
      obtain ⟨e2, _⟩ := cP_rd (x := P) (k := (rd S k 1).int.toNat) (by omega)
      have q5 : (rd S k 1).int ≤ (P.length : Int) - 1 := by omega
      have w : IntKind.i64.wrap ((P.length : Int) - 1) = (P.length : Int) - 1 := wrap_in (by omega) (by omega)
      simp only [sla_L0_step, cS_length, cP_length, e1, e2, cond_dec q, cond_dec q2, Int.toNat_natCast, cond_dec h0, w, cond_dec q5, cond_dec h1, cond_dec q4, cond_dec q3, wrap_succ (k := k) (by omega), decide_eq_true h0, decide_eq_true h1, Bool.true_and]
      cases ((rd P (rd S k 1).int.toNat 0).int == 3) <;> rfl
    · have q5 : ¬ (rd S k 1).int ≤ (P.length : Int) - 1 := by omega
      have w : IntKind.i64.wrap ((P.length : Int) - 1) = (P.length : Int) - 1 := wrap_in (by omega) (by omega)
      simp only [sla_L0_step, cS_length, cP_length, e1, cond_dec q, cond_dec q2, Int.toNat_natCast, cond_dec h0, w, cond_not q5, cond_not h1, wrap_succ (k := k) (by omega), decide_eq_true h0, decide_eq_false h1, Bool.false_and, Bool.and_false, cond_false, cond_same]
  · simp only [sla_L0_step, cS_length, cP_length, e1, cond_dec q, cond_dec q2, Int.toNat_natCast, cond_not h0, wrap_succ (k := k) (by omega), decide_eq_false h0, Bool.false_and, cond_false]
theorem sla_ok {P S : List (List Ct)} (hb : S.length ≤ 1048576) (hp : P.length ≤ 1048576) : sla_res (cP P) (cS S) = some (filtR (glows P S) S.length) ∧ sla_v (cP P) (cS S) = filtR (glows P S) S.length := by
  have h := iter_run (step := sla_L0_step (cP P) (cS S)) (n := S.length) (m := S.length + 1) (r := ((S.length : Int), filtR (glows P S) S.length)) (v := (0, [])) (fun k => ((k : Int), filtR (glows P S) k)) rfl (fun k hk => sla_step hb hp hk filtR_length) (by
    have q : ¬ ((S.length : Int) < (S.length : Int)) := by omega
    simp only [sla_L0_step, cS_length, cond_not q]) (by omega)
  have p1 : sla_L0_p (cP P) (cS S) = true := by unfold sla_L0_p; rw [cS_length]; rw [h]; rfl
  have p2 : sla_L0_v (cP P) (cS S) = ((S.length : Int), filtR (glows P S) S.length) := by unfold sla_L0_v loopRes; rw [cS_length]; rw [h]; rfl
  have hr : sla_res (cP P) (cS S) = some (filtR (glows P S) S.length) := by unfold sla_res; rw [p1, p2]; rfl
  exact ⟨hr, by unfold sla_v; rw [hr]; rfl⟩
theorem rla_step {P S : List (List Ct)} (hb : S.length ≤ 1048576) (hp : P.length ≤ 1048576) {k : Nat} (hk : k < S.length) {l : List (List Ct)} (hl : l.length ≤ k) : rla_L0_step P S ((k : Int), l) = some (.inl (((k + 1 : Nat) : Int), bif glows P S k then l ++ [[.i k]] else l)) := by
  have q : (k : Int) < (S.length : Int) := by omega
  have q2 : (0 : Int) ≤ (k : Int) ∧ (k : Int) < (S.length : Int) := by omega
  have q3 : l.length + [[Ct.i (k : Int)]].length ≤ 9223372036854775807 ∧ (l.length + [[Ct.i (k : Int)]].length) * 8 ≤ 140737488355328 := by simp only [List.length_cons, List.length_nil]; omega
  
  unfold glows
  by_cases h0 : (rd S k 1).int ≥ 0
  · by_cases h1 : (rd S k 1).int < (P.length : Int)
    · have q4 : (0 : Int) ≤ (rd S k 1).int ∧ (rd S k 1).int < (P.length : Int) := by omega
      
      have q5 : (rd S k 1).int ≤ (P.length : Int) - 1 := by omega
      have w : IntKind.i64.wrap ((P.length : Int) - 1) = (P.length : Int) - 1 := wrap_in (by omega) (by omega)
      simp only [rla_L0_step, cond_dec q, cond_dec q2, Int.toNat_natCast, cond_dec h0, w, cond_dec q5, cond_dec h1, cond_dec q4, cond_dec q3, wrap_succ (k := k) (by omega), decide_eq_true h0, decide_eq_true h1, Bool.true_and]
      cases ((rd P (rd S k 1).int.toNat 0).int == 3) <;> rfl
    · have q5 : ¬ (rd S k 1).int ≤ (P.length : Int) - 1 := by omega
      have w : IntKind.i64.wrap ((P.length : Int) - 1) = (P.length : Int) - 1 := wrap_in (by omega) (by omega)
      simp only [rla_L0_step, cond_dec q, cond_dec q2, Int.toNat_natCast, cond_dec h0, w, cond_not q5, cond_not h1, wrap_succ (k := k) (by omega), decide_eq_true h0, decide_eq_false h1, Bool.false_and, Bool.and_false, cond_false, cond_same]
  · simp only [rla_L0_step, cond_dec q, cond_dec q2, Int.toNat_natCast, cond_not h0, wrap_succ (k := k) (by omega), decide_eq_false h0, Bool.false_and, cond_false]
theorem rla_ok {P S : List (List Ct)} (hb : S.length ≤ 1048576) (hp : P.length ≤ 1048576) : rla_res P S = some (filtR (glows P S) S.length) ∧ rla_v P S = filtR (glows P S) S.length := by
  have h := iter_run (step := rla_L0_step P S) (n := S.length) (m := S.length + 1) (r := ((S.length : Int), filtR (glows P S) S.length)) (v := (0, [])) (fun k => ((k : Int), filtR (glows P S) k)) rfl (fun k hk => rla_step hb hp hk filtR_length) (by
    have q : ¬ ((S.length : Int) < (S.length : Int)) := by omega
    simp only [rla_L0_step, cond_not q]) (by omega)
  have p1 : rla_L0_p P S = true := by unfold rla_L0_p; rw [h]; rfl
  have p2 : rla_L0_v P S = ((S.length : Int), filtR (glows P S) S.length) := by unfold rla_L0_v loopRes; rw [h]; rfl
  have hr : rla_res P S = some (filtR (glows P S) S.length) := by unfold rla_res; rw [p1, p2]; rfl
  exact ⟨hr, by unfold rla_v; rw [hr]; rfl⟩
theorem check_ok {x0 x1 x2 x3 x4 x5 x7 x8 x9 x10 x11 x12 : Int} {P T J S : List (List Ct)} (hP : P.length ≤ 1048576) (hT : T.length ≤ 1048576) (hJ : J.length ≤ 1048576) (hS : S.length ≤ 1048576) :
    (sch_res x0 x1 x2 x3 x4 x5 x7 x8 x9 x10 x11 x12 (cP P) (cT T) (cJ J) (cS S)).isSome = true ∧ rch_res x0 x1 x2 x3 x4 x5 x7 x8 x9 x10 x11 x12 P T J S = sch_res x0 x1 x2 x3 x4 x5 x7 x8 x9 x10 x11 x12 (cP P) (cT T) (cJ J) (cS S) ∧ rch_v x0 x1 x2 x3 x4 x5 x7 x8 x9 x10 x11 x12 P T J S = sch_v x0 x1 x2 x3 x4 x5 x7 x8 x9 x10 x11 x12 (cP P) (cT T) (cJ J) (cS S) := by
  obtain ⟨a1, a2⟩ := al1_ok hP
  obtain ⟨b1, b2⟩ := al2_ok hT
  obtain ⟨c1, c2⟩ := al3_ok (T := T) hJ
  obtain ⟨d1, d2⟩ := al4_ok (P := P) (J := J) hS
  obtain ⟨a3, a4⟩ := rch1_ok hP
  obtain ⟨b3, b4⟩ := rch2_ok hT
  obtain ⟨c3, c4⟩ := rch3_ok (T := T) hJ
  obtain ⟨d3, d4⟩ := rch4_ok (P := P) (J := J) hS
  obtain ⟨l1, l2⟩ := sla_ok hS hP
  obtain ⟨l3, l4⟩ := rla_ok hS hP
  obtain ⟨s1, s2, s3⟩ := @shr_ok x0 x1 x2 x3 x4 x5 x7 x8 x9
  obtain ⟨e1, e2, e3⟩ := @sle_ok x10 x11 x12 T
  have main : (sch_res x0 x1 x2 x3 x4 x5 x7 x8 x9 x10 x11 x12 (cP P) (cT T) (cJ J) (cS S)).isSome = true ∧ rch_res x0 x1 x2 x3 x4 x5 x7 x8 x9 x10 x11 x12 P T J S = sch_res x0 x1 x2 x3 x4 x5 x7 x8 x9 x10 x11 x12 (cP P) (cT T) (cJ J) (cS S) := by
    unfold sch_res rch_res
    simp only [cP_length, cT_length, cJ_length, cS_length, a1, b1, c1, d1, a3, a4, b3, b4, c3, c4, d3, d4, l1, l2, l3, l4, s1, s2, s3, e1, e2, e3, cond_true, Option.isSome_some]
    cases shr_v x0 x1 x2 x3 x4 x5 x7 x8 x9 with
    | false => first | exact ⟨rfl, rfl⟩ | exact ⟨rfl, trivial⟩
    | true =>
    simp only [Bool.not_true, cond_false]
    by_cases h1 : (P.length : Int) > 32
    · simp only [cond_dec h1, Option.isSome_some, and_self]
    simp only [cond_not h1]
    cases ha : findB (badP P) P.length 0 with
    | some k =>
      rw [ha] at a2
      have q := a2 ▸ (show (optI (some k)) ≥ 0 from Int.natCast_nonneg k)
      simp only [cond_dec q]
      simp only [a2, optI, cond_true, isL, getR, cond_false, Option.isSome_some, and_self]
    | none =>
    rw [ha] at a2
    have q : ¬ _ ≥ (0 : Int) := a2 ▸ (show ¬ (optI none) ≥ 0 by decide)
    simp only [cond_not q, cond_true, isL, cond_false]
    by_cases h2 : (T.length : Int) > 32
    · simp only [cond_dec h2, Option.isSome_some, and_self]
    simp only [cond_not h2]
    cases hb : findB (badT T) T.length 0 with
    | some k =>
      rw [hb] at b2
      have q := b2 ▸ (show (optI (some k)) ≥ 0 from Int.natCast_nonneg k)
      simp only [cond_dec q]
      simp only [b2, optI, cond_true, isL, getR, cond_false, Option.isSome_some, and_self]
    | none =>
    rw [hb] at b2
    have q : ¬ _ ≥ (0 : Int) := b2 ▸ (show ¬ (optI none) ≥ 0 by decide)
    simp only [cond_not q, cond_true, isL, cond_false]
    by_cases h3 : (J.length : Int) > 32
    · simp only [cond_dec h3, Option.isSome_some, and_self]
    simp only [cond_not h3]
    cases hc : findB (badJ T J) J.length 0 with
    | some k =>
      rw [hc] at c2
      have q := c2 ▸ (show (optI (some k)) ≥ 0 from Int.natCast_nonneg k)
      simp only [cond_dec q]
      simp only [c2, optI, cond_true, isL, getR, cond_false, Option.isSome_some, and_self]
    | none =>
    rw [hc] at c2
    have q : ¬ _ ≥ (0 : Int) := c2 ▸ (show ¬ (optI none) ≥ 0 by decide)
    simp only [cond_not q, cond_true, isL, cond_false]
    by_cases h4 : (S.length : Int) > 128
    · simp only [cond_dec h4, Option.isSome_some, and_self]
    simp only [cond_not h4]
    cases hd : findB (badS P J S) S.length 0 with
    | some k =>
      rw [hd] at d2
      have q := d2 ▸ (show (optI (some k)) ≥ 0 from Int.natCast_nonneg k)
      simp only [cond_dec q]
      simp only [d2, optI, cond_true, isL, getR, cond_false, Option.isSome_some, and_self]
    | none =>
    rw [hd] at d2
    have q : ¬ _ ≥ (0 : Int) := d2 ▸ (show ¬ (optI none) ≥ 0 by decide)
    simp only [cond_not q, cond_true, isL, cond_false]
    cases sle_v x10 x11 x12 (cT T) with
    | false => first | exact ⟨rfl, rfl⟩ | exact ⟨rfl, trivial⟩
    | true =>
    simp only [Bool.not_true, cond_false]
    by_cases h5 : ((filtR (glows P S) S.length).length : Int) > 16
    · have h6 : (0 : Int) ≤ 16 ∧ (16 : Int) < ((filtR (glows P S) S.length).length : Int) := by omega
      simp only [cond_dec h5, cond_dec h6, Option.isSome_some, and_self]
    · simp only [cond_not h5, Option.isSome_some, and_self]
  exact ⟨main.1, main.2, by unfold rch_v sch_v; rw [main.2]⟩
end Go.Proofs.Ytcpbiijegbbafaa
