/- A scene that breaks no rule may be laid. No condition. -/
import Derived.Test.YtcpbiijegbbafaaJobTotG
set_option linter.unusedVariables false
set_option linter.unusedSimpArgs false
namespace Go.Proofs.Ytcpbiijegbbafaa
open Go.RowKit

theorem ctf {p : Prop} [Decidable p] {x : Bool} : ((bif decide p then x else false) = true) ↔ (p ∧ x = true) := by by_cases h : p <;> simp [h]
theorem cft {p : Prop} [Decidable p] {x : Bool} : ((bif decide p then false else x) = true) ↔ (¬ p ∧ x = true) := by by_cases h : p <;> simp [h]
theorem cft' {p : Prop} [Decidable p] {x : Bool} : ((bif !decide p then false else x) = true) ↔ (p ∧ x = true) := by by_cases h : p <;> simp [h]
theorem cbf {b x : Bool} : ((bif b then x else false) = true) ↔ (b = true ∧ x = true) := by cases b <;> simp
theorem sch_zero {x0 x1 x2 x3 x4 x5 x7 x8 x9 x10 x11 x12 : Int} {P T J S : List (List Ct)} (hP : P.length ≤ 1048576) (hT : T.length ≤ 1048576) (hJ : J.length ≤ 1048576) (hS : S.length ≤ 1048576) (hz : (sch_v x0 x1 x2 x3 x4 x5 x7 x8 x9 x10 x11 x12 (cP P) (cT T) (cJ J) (cS S)).1 = 0) :
    shr_v x0 x1 x2 x3 x4 x5 x7 x8 x9 = true ∧ sle_v x10 x11 x12 (cT T) = true ∧ (P.length ≤ 32 ∧ T.length ≤ 32 ∧ J.length ≤ 32 ∧ S.length ≤ 128) ∧ findB (badP P) P.length 0 = none ∧ findB (badT T) T.length 0 = none ∧ findB (badJ T J) J.length 0 = none ∧ findB (badS P J S) S.length 0 = none := by
  obtain ⟨a1, a2⟩ := al1_ok hP
  obtain ⟨b1, b2⟩ := al2_ok hT
  obtain ⟨c1, c2⟩ := al3_ok (T := T) hJ
  obtain ⟨d1, d2⟩ := al4_ok (P := P) (J := J) hS
  obtain ⟨l1, l2⟩ := sla_ok hS hP
  obtain ⟨s1, s2, s3⟩ := @shr_ok x0 x1 x2 x3 x4 x5 x7 x8 x9
  obtain ⟨e1, e2, e3⟩ := @sle_ok x10 x11 x12 T
  have key : ∀ c i, sch_res x0 x1 x2 x3 x4 x5 x7 x8 x9 x10 x11 x12 (cP P) (cT T) (cJ J) (cS S) = some (c, i) → c = 0 := fun c i h => by
    have : sch_v x0 x1 x2 x3 x4 x5 x7 x8 x9 x10 x11 x12 (cP P) (cT T) (cJ J) (cS S) = (c, i) := by unfold sch_v; rw [h]; rfl
    rw [this] at hz; exact hz
  cases q0 : shr_v x0 x1 x2 x3 x4 x5 x7 x8 x9 with
  | false => exact absurd (key 21 0 (by unfold sch_res; simp only [cP_length, cT_length, cJ_length, cS_length, s1, a1, b1, c1, d1, e1, l1, l2, Option.isSome_some, cond_true, cond_false, q0, Bool.not_false])) (by omega)
  | true =>
  by_cases g0 : (P.length : Int) > 32
  · exact absurd (key 22 32 (by unfold sch_res; simp only [cP_length, cT_length, cJ_length, cS_length, s1, a1, b1, c1, d1, e1, l1, l2, Option.isSome_some, cond_true, cond_false, q0, Bool.not_true, cond_dec g0])) (by omega)
  cases w0 : findB (badP P) P.length 0 with
  | some k =>
    have q : al1_v (P.length : Int) (cP P) ≥ 0 := by rw [a2, w0]; exact Int.natCast_nonneg k
    exact absurd (key 22 (al1_v (P.length : Int) (cP P)) (by unfold sch_res; simp only [cP_length, cT_length, cJ_length, cS_length, s1, a1, b1, c1, d1, e1, l1, l2, Option.isSome_some, cond_true, cond_false, q0, Bool.not_true, cond_not g0, cond_dec q])) (by omega)
  | none =>
  have q1 : ¬ al1_v (P.length : Int) (cP P) ≥ 0 := by rw [a2, w0]; decide
  by_cases g1 : (T.length : Int) > 32
  · exact absurd (key 23 32 (by unfold sch_res; simp only [cP_length, cT_length, cJ_length, cS_length, s1, a1, b1, c1, d1, e1, l1, l2, Option.isSome_some, cond_true, cond_false, q0, Bool.not_true, cond_not g0, cond_not q1, cond_dec g1])) (by omega)
  cases w1 : findB (badT T) T.length 0 with
  | some k =>
    have q : al2_v (T.length : Int) (cT T) ≥ 0 := by rw [b2, w1]; exact Int.natCast_nonneg k
    exact absurd (key 23 (al2_v (T.length : Int) (cT T)) (by unfold sch_res; simp only [cP_length, cT_length, cJ_length, cS_length, s1, a1, b1, c1, d1, e1, l1, l2, Option.isSome_some, cond_true, cond_false, q0, Bool.not_true, cond_not g0, cond_not q1, cond_not g1, cond_dec q])) (by omega)
  | none =>
  have q2 : ¬ al2_v (T.length : Int) (cT T) ≥ 0 := by rw [b2, w1]; decide
  by_cases g2 : (J.length : Int) > 32
  · exact absurd (key 24 32 (by unfold sch_res; simp only [cP_length, cT_length, cJ_length, cS_length, s1, a1, b1, c1, d1, e1, l1, l2, Option.isSome_some, cond_true, cond_false, q0, Bool.not_true, cond_not g0, cond_not q1, cond_not g1, cond_not q2, cond_dec g2])) (by omega)
  cases w2 : findB (badJ T J) J.length 0 with
  | some k =>
    have q : al3_v (J.length : Int) (cT T) (cJ J) ≥ 0 := by rw [c2, w2]; exact Int.natCast_nonneg k
    exact absurd (key 24 (al3_v (J.length : Int) (cT T) (cJ J)) (by unfold sch_res; simp only [cP_length, cT_length, cJ_length, cS_length, s1, a1, b1, c1, d1, e1, l1, l2, Option.isSome_some, cond_true, cond_false, q0, Bool.not_true, cond_not g0, cond_not q1, cond_not g1, cond_not q2, cond_not g2, cond_dec q])) (by omega)
  | none =>
  have q3 : ¬ al3_v (J.length : Int) (cT T) (cJ J) ≥ 0 := by rw [c2, w2]; decide
  by_cases g3 : (S.length : Int) > 128
  · exact absurd (key 25 128 (by unfold sch_res; simp only [cP_length, cT_length, cJ_length, cS_length, s1, a1, b1, c1, d1, e1, l1, l2, Option.isSome_some, cond_true, cond_false, q0, Bool.not_true, cond_not g0, cond_not q1, cond_not g1, cond_not q2, cond_not g2, cond_not q3, cond_dec g3])) (by omega)
  cases w3 : findB (badS P J S) S.length 0 with
  | some k =>
    have q : al4_v (S.length : Int) (cP P) (cJ J) (cS S) ≥ 0 := by rw [d2, w3]; exact Int.natCast_nonneg k
    exact absurd (key 25 (al4_v (S.length : Int) (cP P) (cJ J) (cS S)) (by unfold sch_res; simp only [cP_length, cT_length, cJ_length, cS_length, s1, a1, b1, c1, d1, e1, l1, l2, Option.isSome_some, cond_true, cond_false, q0, Bool.not_true, cond_not g0, cond_not q1, cond_not g1, cond_not q2, cond_not g2, cond_not q3, cond_not g3, cond_dec q])) (by omega)
  | none =>
  have q4 : ¬ al4_v (S.length : Int) (cP P) (cJ J) (cS S) ≥ 0 := by rw [d2, w3]; decide
  cases q5 : sle_v x10 x11 x12 (cT T) with
  | false => exact absurd (key 26 0 (by unfold sch_res; simp only [cP_length, cT_length, cJ_length, cS_length, s1, a1, b1, c1, d1, e1, l1, l2, Option.isSome_some, cond_true, cond_false, q0, Bool.not_true, cond_not g0, cond_not q1, cond_not g1, cond_not q2, cond_not g2, cond_not q3, cond_not g3, cond_not q4, q5, Bool.not_false])) (by omega)
  | true => exact ⟨rfl, rfl, ⟨by omega, by omega, by omega, by omega⟩, rfl, rfl, rfl, rfl⟩
theorem none_all {f : Nat → Bool} {n : Nat} (h : findB f n 0 = none) : ∀ k, k < n → f k = false := fun k hk => findB_none.1 h k (by omega) (by omega)
theorem tab_mem {f : Nat → List Ct} {n : Nat} {r : List Ct} (h : r ∈ tab f n) : ∃ k, k < n ∧ r = f k := by
  unfold tab at h
  obtain ⟨k, hk, rfl⟩ := List.mem_map.1 h
  exact ⟨k, List.mem_range.1 hk, rfl⟩
theorem spr_true {a b c d e : Int} (h : spr_v a b c d e = true) : (0 ≤ a ∧ a ≤ 3) ∧ (0 ≤ b ∧ b ≤ 1048576) ∧ (0 ≤ c ∧ c ≤ 1048576) ∧ (0 ≤ d ∧ d ≤ 1048576) ∧ (0 ≤ e ∧ e ≤ 65536) := by
  simp only [spr_v, spr_res, getD_cond, Option.getD_some, ctf, cft, decide_eq_true_eq] at h
  omega
theorem shr_true {x0 x1 x2 x3 x4 x5 x7 x8 x9 : Int} (h : shr_v x0 x1 x2 x3 x4 x5 x7 x8 x9 = true) : (0 ≤ x0 ∧ x0 ≤ 64) ∧ (0 ≤ x1 ∧ x1 ≤ 64) ∧ (0 ≤ x2 ∧ x2 ≤ 16) ∧ (0 ≤ x3 ∧ x3 ≤ 6) ∧ (0 ≤ x4 ∧ x4 ≤ 32) ∧ (0 ≤ x5 ∧ x5 ≤ 65536) ∧ (0 ≤ x7 ∧ x7 ≤ 1048576) ∧ (0 ≤ x8 ∧ x8 ≤ 1048576) ∧ (0 ≤ x9 ∧ x9 ≤ 1048576) := by
  simp only [shr_v, shr_res, getD_cond, Option.getD_some, ctf, cft, decide_eq_true_eq] at h
  omega
theorem sle_true {a b c : Int} {T : List (List Ct)} (hT : T.length ≤ 1048576) (h : sle_v a b c T = true) : (0 ≤ a ∧ a < T.length) ∧ (0 ≤ b ∧ b < T.length) ∧ (0 ≤ c ∧ c ≤ 524288) := by
  have w : IntKind.i64.wrap ((T.length : Int) - 1) = (T.length : Int) - 1 := wrap_in (by omega) (by omega)
  simp only [sle_v, sle_res, w, getD_cond, Option.getD_some, ctf, cft, decide_eq_true_eq] at h
  omega
theorem sjo_true {T J : List (List Ct)} {k : Nat} (hT : T.length ≤ 1048576) (hk : k < J.length) (hJ : J.length ≤ 32) (h : sjo_v T J (k : Int) = true) : (-1 ≤ (rd J k 0).int ∧ (rd J k 0).int ≤ 32) ∧ (-1 ≤ (rd J k 1).int ∧ (rd J k 1).int ≤ T.length) ∧ (-1 ≤ (rd J k 2).int ∧ (rd J k 2).int ≤ T.length) ∧ (0 ≤ (rd J k 3).int ∧ (rd J k 3).int ≤ 4194304) := by
  have w : IntKind.i64.wrap ((T.length : Int) - 1) = (T.length : Int) - 1 := wrap_in (by omega) (by omega)
  have w1 : IntKind.i64.wrap ((k : Int) - 1) = (k : Int) - 1 := wrap_in (by omega) (by omega)
  have q : (0 : Int) ≤ (k : Int) ∧ (k : Int) < (J.length : Int) := by omega
  have hn : Int.negSucc 0 = -1 := rfl
  simp only [sjo_v, sjo_res, w, w1, cond_dec q, Int.toNat_natCast, getD_cond, Option.getD_some, ctf, cft, decide_eq_true_eq, hn] at h
  omega
theorem ssh_true {P J : List (List Ct)} {c0 c1 c2 c3 c4 c5 c6 c7 c8 c9 c10 c11 c12 : Int} (hP : P.length ≤ 32) (hJ : J.length ≤ 32) (h : ssh_v P J c0 c1 c2 c3 c4 c5 c6 c7 c8 c9 c10 c11 c12 = true) : VS [.i c0, .i c1, .i c2, .i c3, .i c4, .i c5, .i c6, .i c7, .i c8, .i c9, .i c10, .i c11, .i c12] := by
  have w : IntKind.i64.wrap ((P.length : Int) - 1) = (P.length : Int) - 1 := wrap_in (by omega) (by omega)
  have w1 : IntKind.i64.wrap ((J.length : Int) - 1) = (J.length : Int) - 1 := wrap_in (by omega) (by omega)
  have hn : Int.negSucc 0 = -1 := rfl
  by_cases hk : c2 = 0
  · subst hk
    simp only [ssh_v, ssh_res, w, w1, beq_self_eq_true, cond_true, getD_cond, Option.getD_some, ctf, cft, cft', cbf, Bool.and_true, Bool.and_eq_true, beq_iff_eq, decide_eq_true_eq, hn] at h
    obtain ⟨h0, h0', h1, h1', _, _, h3, h3', h4, h4', h5, h5', ⟨h6, h7, h8⟩, ⟨h9, h10, h11⟩, h12, h12'⟩ := h
    subst h6 h7 h8 h9 h10 h11
    exact ⟨_, _, _, _, _, _, _, _, _, _, _, _, _, rfl, by omega, by omega, ⟨⟨by omega, by omega⟩, ⟨by omega, by omega⟩, ⟨by omega, by omega⟩⟩, .inl ⟨rfl, ⟨rfl, rfl, rfl, rfl, rfl, rfl⟩, ⟨by omega, by omega⟩⟩⟩
  · have hb : (c2 == 0) = false := by simpa using hk
    simp only [ssh_v, ssh_res, w, w1, hb, cond_false, getD_cond, Option.getD_some, ctf, cft, cft', cbf, Bool.and_true, Bool.and_eq_true, beq_iff_eq, decide_eq_true_eq, hn] at h
    obtain ⟨h0, h0', h1, h1', h2, h2', h3, h3', h4, h4', h5, h5', h6, h6', h7, h7', h8, h8', h9, h9', h10, h10', h11, h11', h12⟩ := h
    have hk1 : c2 = 1 := by omega
    subst hk1 h12
    exact ⟨_, _, _, _, _, _, _, _, _, _, _, _, _, rfl, by omega, by omega, ⟨⟨by omega, by omega⟩, ⟨by omega, by omega⟩, ⟨by omega, by omega⟩⟩, .inr ⟨rfl, ⟨⟨by omega, by omega⟩, ⟨by omega, by omega⟩, ⟨by omega, by omega⟩⟩, ⟨⟨by omega, by omega⟩, ⟨by omega, by omega⟩, ⟨by omega, by omega⟩⟩, rfl⟩⟩
theorem valid_of {x0 x1 x2 x3 x4 x5 x6 x7 x8 x9 x10 x11 x12 : Int} {P T J S : List (List Ct)} (h6 : 0 ≤ x6 ∧ x6 < 18446744073709551616) (hP : P.length ≤ 1048576) (hT : T.length ≤ 1048576) (hJ : J.length ≤ 1048576) (hS : S.length ≤ 1048576) (hz : (sch_v x0 x1 x2 x3 x4 x5 x7 x8 x9 x10 x11 x12 (cP P) (cT T) (cJ J) (cS S)).1 = 0) :
    VSc x0 x1 x2 x3 x4 x5 x6 x7 x8 x9 x10 x11 x12 (cP P) (cT T) (cJ J) (cS S) := by
  obtain ⟨r1, r2, ⟨n1, n2, n3, n4⟩, f1, f2, f3, f4⟩ := sch_zero hP hT hJ hS hz
  have q1 := shr_true r1
  have q2 := sle_true (by rw [cT_length]; omega) r2
  rw [cT_length] at q2
  refine ⟨⟨by omega, by omega, by omega, by omega, by omega, ⟨by omega, by omega⟩, h6, ⟨⟨by omega, by omega⟩, ⟨by omega, by omega⟩, ⟨by omega, by omega⟩⟩, by omega, by omega, ⟨by omega, by omega⟩⟩, fun r hr => ?_, fun r hr => ?_, fun r hr => ?_, fun r hr => ?_, by rw [cP_length]; omega, by rw [cT_length]; omega, by rw [cJ_length]; omega, by rw [cS_length]; omega⟩
  · obtain ⟨k, hk, rfl⟩ := tab_mem hr
    have hb := none_all f1 k hk
    have q := spr_true (by simpa [badP] using hb)
    exact ⟨_, _, _, _, _, rfl, by omega, ⟨⟨by omega, by omega⟩, ⟨by omega, by omega⟩, ⟨by omega, by omega⟩⟩, ⟨by omega, by omega⟩⟩
  · obtain ⟨k, hk, rfl⟩ := tab_mem hr
    have hb := none_all f2 k hk
    obtain ⟨b, ⟨t1, t2⟩, t3⟩ := trt_is (w := (rd T k 0).int) (l := cK (rd T k 1).rows)
    have hbt : b = true := by
      have : trt_v (rd T k 0).int (cK (rd T k 1).rows) = true := by simpa [badT] using hb
      rw [← t2]; exact this
    have R := t3.1 hbt
    have w0 := R.w0; have w1 := R.w1; have nl := R.n1
    refine ⟨_, _, rfl, by omega, nl, fun x hx => ?_⟩
    obtain ⟨i, hi, rfl⟩ := tab_mem hx
    have ok := R.ok i (by rw [cK_length]; exact hi)
    obtain ⟨e0, e1, e2, e3⟩ := cK_rd hi
    have t0 := ok.t0; have t1 := ok.t1
    have v1 := ok.v 1 (by omega) (by omega); have v2 := ok.v 2 (by omega) (by omega); have v3 := ok.v 3 (by omega) (by omega)
    rw [e0] at t0 t1
    rw [e1] at v1
    rw [e2] at v2
    rw [e3] at v3
    exact ⟨_, _, _, _, rfl, ⟨by omega, by omega⟩, v1, v2, v3⟩
  · obtain ⟨k, hk, rfl⟩ := tab_mem hr
    have hb := none_all f3 k hk
    have q := sjo_true (T := cT T) (J := cJ J) (k := k) (by rw [cT_length]; omega) (by rw [cJ_length]; exact hk) (by rw [cJ_length]; omega) (by simpa [badJ] using hb)
    obtain ⟨e0, e1, e2, e3⟩ := cJ_rd hk
    rw [e0, e1, e2, e3, cT_length] at q
    exact ⟨_, _, _, _, rfl, by omega, by omega, by omega, ⟨by omega, by omega⟩⟩
  · obtain ⟨k, hk, rfl⟩ := tab_mem hr
    have hb := none_all f4 k hk
    exact ssh_true (P := cP P) (J := cJ J) (by rw [cP_length]; omega) (by rw [cJ_length]; omega) (by simpa [badS] using hb)
theorem Byt.app {s t : List Int} (h : Byt s) (k : Byt t) : Byt (s ++ t) := fun y hy => by
  rcases List.mem_append.1 hy with hy | hy
  · exact h y hy
  · exact k y hy
theorem byt_bw {n : Nat} {x : Int} : Byt (bw n x) := byt_byt _ _
theorem byt_b3 {x y z : Int} : Byt (b3 x y z) := byt_bw.app (byt_bw.app byt_bw)
theorem byt_cat {f : Nat → List Int} (h : ∀ k, Byt (f k)) : ∀ n, Byt (catF f n)
  | 0 => fun y hy => (by cases hy)
  | n + 1 => (byt_cat h n).app (h n)
theorem byt_scene {x0 x1 x2 x3 x4 x5 x6 x7 x8 x9 x10 x11 x12 : Int} {P T J S : List (List Ct)} : Byt (bScene x0 x1 x2 x3 x4 x5 x6 x7 x8 x9 x10 x11 x12 P T J S) := by
  have hM : Byt bM := fun y hy => by simp only [bM, List.mem_cons, List.not_mem_nil, or_false] at hy; omega
  refine hM.app (Byt.app ?_ (Byt.app ?_ (Byt.app ?_ (Byt.app ?_ (Byt.app ?_ ?_)))))
  · exact byt_bw.app (byt_bw.app (byt_bw.app (byt_bw.app (byt_bw.app (byt_bw.app ((byt_byt _ _ : Byt (byt 8 _)).app (byt_b3.app (byt_bw.app (byt_bw.app byt_bw)))))))))
  · exact byt_bw.app (byt_bw.app (byt_bw.app byt_bw))
  · exact byt_cat (fun k => byt_bw.app (byt_b3.app byt_bw)) _
  · exact byt_cat (fun k => byt_bw.app (byt_bw.app (byt_cat (fun j => byt_bw.app byt_b3) _))) _
  · exact byt_cat (fun k => byt_bw.app (byt_bw.app (byt_bw.app byt_bw))) _
  · refine byt_cat (fun k => byt_bw.app (byt_bw.app (byt_bw.app (byt_b3.app ?_)))) _
    split
    · exact byt_bw
    · exact byt_b3.app byt_b3
theorem cat_len {f : Nat → List Int} {n m : Nat} (h : ∀ k, k < n → (f k).length ≤ m) : (catF f n).length ≤ m * n := by
  induction n with
  | zero => simp [catF]
  | succ n ih =>
    have h1 := ih fun k hk => h k (by omega)
    have h2 := h n (by omega)
    simp only [catF, List.length_append, Nat.mul_succ]
    omega
theorem scene_len {x0 x1 x2 x3 x4 x5 x6 x7 x8 x9 x10 x11 x12 : Int} {P T J S : List (List Ct)} (h : VSc x0 x1 x2 x3 x4 x5 x6 x7 x8 x9 x10 x11 x12 P T J S) : (bScene x0 x1 x2 x3 x4 x5 x6 x7 x8 x9 x10 x11 x12 P T J S).length ≤ 65536 := by
  have hp := h.pl; have ht := h.tl; have hj := h.jl; have hs := h.sl
  have l1 : (catF (bP P) P.length).length ≤ 21 * P.length := cat_len fun k _ => by simp only [bP, List.length_append, bw_length, b3_length]; omega
  have l2 : (catF (bT T) T.length).length ≤ 322 * T.length := cat_len fun k hk => by
    have hf := few_of h.t k hk
    have l0 : (catF (bK (rd T k 1).rows) (rd T k 1).rows.length).length ≤ 20 * (rd T k 1).rows.length := cat_len fun i _ => by simp only [bK, List.length_append, bw_length, b3_length]; omega
    simp only [bT, List.length_append, bw_length]
    omega
  have l3 : (catF (bJ J) J.length).length ≤ 11 * J.length := cat_len fun k _ => by simp only [bJ, List.length_append, bw_length]; omega
  have l4 : (catF (bS S) S.length).length ≤ 50 * S.length := cat_len fun k _ => by
    simp only [bS, bS13, List.length_append, bw_length, b3_length]
    split <;> simp only [List.length_append, bw_length, b3_length] <;> omega
  simp only [bScene, bM, bH, bN, List.length_append, bw_length, b3_length, byt_length, List.length_cons, List.length_nil]
  omega
end Go.Proofs.Ytcpbiijegbbafaa
