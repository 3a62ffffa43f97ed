/- Scenes in plain numbers: to the document's; the same ones. No condition. -/
import Derived.Test.YtcpbiijegbbafaaEngScene4F
import Derived.Test.YtcpbiijegbbafaaSceneLaw
set_option linter.unusedVariables false
set_option linter.unusedSimpArgs false
namespace Go.Proofs.Ytcpbiijegbbafaa
open Go.RowKit

theorem tfr_L0_it {x : List (List Ct)} (hb : x.length ≤ 1048576) : iter (tfr_L0_step x) (x.length + 1) (0, []) = some ((x.length : Int), cK x) := by
  refine iter_run (step := tfr_L0_step x) (n := x.length) (fun k => ((k : Int), tab (gK x) k)) rfl (fun k hk' => ?_) ?_ (by omega)
  · have q : (k : Int) < (x.length : Int) := by omega
    have q2 : (0 : Int) ≤ (k : Int) ∧ (k : Int) < (x.length : Int) := by omega
    simp only [tfr_L0_step, cond_dec q, cond_dec q2, wrap_succ (k := k) (by omega), Int.toNat_natCast]
    rw [cond_dec (by simp only [tab_length, List.length_cons, List.length_nil]; omega), ← tab_succ]
    rfl
  · have q : ¬ ((x.length : Int) < (x.length : Int)) := by omega
    simp only [tfr_L0_step, cond_not q]
    rfl
theorem tfr_L0_is {x : List (List Ct)} (hb : x.length ≤ 1048576) : tfr_L0_p x = true ∧ (tfr_L0_v x).2 = cK x := by
  have h := tfr_L0_it hb
  exact ⟨by unfold tfr_L0_p; rw [h]; rfl, by unfold tfr_L0_v loopRes; rw [h]; rfl⟩
theorem tfr_ok {w : Int} {x : List (List Ct)} (hb : x.length ≤ 1048576) : tfr_res w x = some (w, cK x) ∧ tfr_v w x = (w, cK x) := by
  obtain ⟨h1, h2⟩ := tfr_L0_is hb
  have h : tfr_res w x = some (w, cK x) := by unfold tfr_res; rw [h1, h2]; rfl
  exact ⟨h, by unfold tfr_v; rw [h]; rfl⟩
theorem sfr_L0_it {x : List (List Ct)} (hb : x.length ≤ 1048576) : iter (sfr_L0_step x) (x.length + 1) (0, []) = some ((x.length : Int), cP x) := by
  refine iter_run (step := sfr_L0_step x) (n := x.length) (fun k => ((k : Int), tab (gP x) k)) rfl (fun k hk' => ?_) ?_ (by omega)
  · have q : (k : Int) < (x.length : Int) := by omega
    have q2 : (0 : Int) ≤ (k : Int) ∧ (k : Int) < (x.length : Int) := by omega
    simp only [sfr_L0_step, cond_dec q, cond_dec q2, wrap_succ (k := k) (by omega), Int.toNat_natCast]
    rw [cond_dec (by simp only [tab_length, List.length_cons, List.length_nil]; omega), ← tab_succ]
    rfl
  · have q : ¬ ((x.length : Int) < (x.length : Int)) := by omega
    simp only [sfr_L0_step, cond_not q]
    rfl
theorem sfr_L0_is {x : List (List Ct)} (hb : x.length ≤ 1048576) : sfr_L0_p x = true ∧ (sfr_L0_v x).2 = cP x := by
  have h := sfr_L0_it hb
  exact ⟨by unfold sfr_L0_p; rw [h]; rfl, by unfold sfr_L0_v loopRes; rw [h]; rfl⟩
theorem sfr_L2_it {x : List (List Ct)} (hb : x.length ≤ 1048576) (hk : ∀ k, k < x.length → (rd x k 1).rows.length ≤ 1048576) : iter (sfr_L2_step x) (x.length + 1) (0, []) = some ((x.length : Int), cT x) := by
  refine iter_run (step := sfr_L2_step x) (n := x.length) (fun k => ((k : Int), tab (gT x) k)) rfl (fun k hk' => ?_) ?_ (by omega)
  · have q : (k : Int) < (x.length : Int) := by omega
    have q2 : (0 : Int) ≤ (k : Int) ∧ (k : Int) < (x.length : Int) := by omega
    have e := hk k hk'
    simp only [sfr_L2_step, cond_dec q, cond_dec q2, wrap_succ (k := k) (by omega), Int.toNat_natCast, (tfr_ok (w := (rd x k 0).int) e).1, (tfr_ok (w := (rd x k 0).int) e).2, Option.isSome_some, cond_true]
    rw [cond_dec (by simp only [tab_length, List.length_cons, List.length_nil]; omega), ← tab_succ]
    rfl
  · have q : ¬ ((x.length : Int) < (x.length : Int)) := by omega
    simp only [sfr_L2_step, cond_not q]
    rfl
theorem sfr_L2_is {x : List (List Ct)} (hb : x.length ≤ 1048576) (hk : ∀ k, k < x.length → (rd x k 1).rows.length ≤ 1048576) : sfr_L2_p x = true ∧ (sfr_L2_v x).2 = cT x := by
  have h := sfr_L2_it hb hk
  exact ⟨by unfold sfr_L2_p; rw [h]; rfl, by unfold sfr_L2_v loopRes; rw [h]; rfl⟩
theorem sfr_L4_it {x : List (List Ct)} (hb : x.length ≤ 1048576) : iter (sfr_L4_step x) (x.length + 1) (0, []) = some ((x.length : Int), cJ x) := by
  refine iter_run (step := sfr_L4_step x) (n := x.length) (fun k => ((k : Int), tab (gJ x) k)) rfl (fun k hk' => ?_) ?_ (by omega)
  · have q : (k : Int) < (x.length : Int) := by omega
    have q2 : (0 : Int) ≤ (k : Int) ∧ (k : Int) < (x.length : Int) := by omega
    simp only [sfr_L4_step, cond_dec q, cond_dec q2, wrap_succ (k := k) (by omega), Int.toNat_natCast]
    rw [cond_dec (by simp only [tab_length, List.length_cons, List.length_nil]; omega), ← tab_succ]
    rfl
  · have q : ¬ ((x.length : Int) < (x.length : Int)) := by omega
    simp only [sfr_L4_step, cond_not q]
    rfl
theorem sfr_L4_is {x : List (List Ct)} (hb : x.length ≤ 1048576) : sfr_L4_p x = true ∧ (sfr_L4_v x).2 = cJ x := by
  have h := sfr_L4_it hb
  exact ⟨by unfold sfr_L4_p; rw [h]; rfl, by unfold sfr_L4_v loopRes; rw [h]; rfl⟩
theorem sfr_L6_it {x : List (List Ct)} (hb : x.length ≤ 1048576) : iter (sfr_L6_step x) (x.length + 1) (0, []) = some ((x.length : Int), cS x) := by
  refine iter_run (step := sfr_L6_step x) (n := x.length) (fun k => ((k : Int), tab (gS x) k)) rfl (fun k hk' => ?_) ?_ (by omega)
  · have q : (k : Int) < (x.length : Int) := by omega
    have q2 : (0 : Int) ≤ (k : Int) ∧ (k : Int) < (x.length : Int) := by omega
    simp only [sfr_L6_step, cond_dec q, cond_dec q2, wrap_succ (k := k) (by omega), Int.toNat_natCast]
    rw [cond_dec (by simp only [tab_length, List.length_cons, List.length_nil]; omega), ← tab_succ]
    rfl
  · have q : ¬ ((x.length : Int) < (x.length : Int)) := by omega
    simp only [sfr_L6_step, cond_not q]
    rfl
theorem sfr_L6_is {x : List (List Ct)} (hb : x.length ≤ 1048576) : sfr_L6_p x = true ∧ (sfr_L6_v x).2 = cS x := by
  have h := sfr_L6_it hb
  exact ⟨by unfold sfr_L6_p; rw [h]; rfl, by unfold sfr_L6_v loopRes; rw [h]; rfl⟩
theorem sfr_ok {x0 x1 x2 x3 x4 x5 x6 x7 x8 x9 x10 x11 x12 : Int} {P T J S : List (List Ct)} (hP : P.length ≤ 1048576) (hT : T.length ≤ 1048576) (hK : ∀ k, k < T.length → (rd T k 1).rows.length ≤ 1048576) (hJ : J.length ≤ 1048576) (hS : S.length ≤ 1048576) :
    sfr_res x0 x1 x2 x3 x4 x5 x6 x7 x8 x9 x10 x11 x12 P T J S = some (x0, x1, x2, x3, x4, x5, x6, x7, x8, x9, x10, x11, x12, cP P, cT T, cJ J, cS S) ∧ sfr_v x0 x1 x2 x3 x4 x5 x6 x7 x8 x9 x10 x11 x12 P T J S = (x0, x1, x2, x3, x4, x5, x6, x7, x8, x9, x10, x11, x12, cP P, cT T, cJ J, cS S) := by
  obtain ⟨h1, h2⟩ := sfr_L0_is hP
  obtain ⟨h3, h4⟩ := sfr_L2_is hT hK
  obtain ⟨h5, h6⟩ := sfr_L4_is hJ
  obtain ⟨h7, h8⟩ := sfr_L6_is hS
  have h : sfr_res x0 x1 x2 x3 x4 x5 x6 x7 x8 x9 x10 x11 x12 P T J S = some (x0, x1, x2, x3, x4, x5, x6, x7, x8, x9, x10, x11, x12, cP P, cT T, cJ J, cS S) := by unfold sfr_res; rw [h1, h2, h3, h4, h5, h6, h7, h8]; rfl
  exact ⟨h, by unfold sfr_v; rw [h]; rfl⟩
theorem rsa_L0_is {x y : List (List Ct)} (hb : x.length ≤ 1048576) (hl : y.length = x.length) (h : ∀ k, k < x.length → (rd x k 0).int = (rd y k 0).int ∧ (rd x k 1).int = (rd y k 1).int ∧ (rd x k 2).int = (rd y k 2).int ∧ (rd x k 3).int = (rd y k 3).int) : rsa_L0_p x y = true ∧ isL (rsa_L0_v x y) = true := by
  obtain ⟨r, h1, h2⟩ := iter_chk (step := rsa_L0_step x y) (n := x.length) (m := x.length + 1) (c := fun _ => True) (fun k hk => ⟨fun _ => by
    have q : (k : Int) < (x.length : Int) := by omega
    have q2 : (0 : Int) ≤ (k : Int) ∧ (k : Int) < (x.length : Int) := by omega
    have q3 : (0 : Int) ≤ (k : Int) ∧ (k : Int) < (y.length : Int) := by omega
    have e := h k hk
    simp only [rsa_L0_step, cond_dec q, cond_dec q2, cond_dec q3, Int.toNat_natCast, e, beq_self_eq_true, Bool.and_self, Bool.and_true, Bool.not_true, Bool.not_false, cond_false, wrap_succ (k := k) (by omega)]
    rfl, fun h => absurd trivial h⟩) (by
    have q : ¬ ((x.length : Int) < (x.length : Int)) := by omega
    simp only [rsa_L0_step, cond_not q]) (by omega)
  exact ⟨by unfold rsa_L0_p; rw [h1]; rfl, by unfold rsa_L0_v; rw [h1]; exact h2.2 fun _ _ => trivial⟩
theorem rsa_ok {w : Int} {x y : List (List Ct)} (hb : x.length ≤ 1048576) (hl : y.length = x.length) (h : ∀ k, k < x.length → (rd x k 0).int = (rd y k 0).int ∧ (rd x k 1).int = (rd y k 1).int ∧ (rd x k 2).int = (rd y k 2).int ∧ (rd x k 3).int = (rd y k 3).int) : rsa_res w x w y = some true ∧ rsa_v w x w y = true := by
  obtain ⟨h1, h2⟩ := rsa_L0_is hb hl h
  have h : rsa_res w x w y = some true := by
    unfold rsa_res
    rw [h1, h2, hl]
    simp
  exact ⟨h, by unfold rsa_v; rw [h]; rfl⟩
theorem sam_L0_is {x y : List (List Ct)} (hb : x.length ≤ 1048576) (hl : y.length = x.length) (h : ∀ k, k < x.length → (rd x k 0).int = (rd y k 0).int ∧ (rd x k 1).int = (rd y k 1).int ∧ (rd x k 2).int = (rd y k 2).int ∧ (rd x k 3).int = (rd y k 3).int ∧ (rd x k 4).int = (rd y k 4).int) : sam_L0_p x y = true ∧ isL (sam_L0_v x y) = true := by
  obtain ⟨r, h1, h2⟩ := iter_chk (step := sam_L0_step x y) (n := x.length) (m := x.length + 1) (c := fun _ => True) (fun k hk => ⟨fun _ => by
    have q : (k : Int) < (x.length : Int) := by omega
    have q2 : (0 : Int) ≤ (k : Int) ∧ (k : Int) < (x.length : Int) := by omega
    have q3 : (0 : Int) ≤ (k : Int) ∧ (k : Int) < (y.length : Int) := by omega
    have e := h k hk
    simp only [sam_L0_step, cond_dec q, cond_dec q2, cond_dec q3, Int.toNat_natCast, e, beq_self_eq_true, Bool.and_self, Bool.and_true, Bool.not_true, Bool.not_false, cond_false, wrap_succ (k := k) (by omega)]
    rfl, fun h => absurd trivial h⟩) (by
    have q : ¬ ((x.length : Int) < (x.length : Int)) := by omega
    simp only [sam_L0_step, cond_not q]) (by omega)
  exact ⟨by unfold sam_L0_p; rw [h1]; rfl, by unfold sam_L0_v; rw [h1]; exact h2.2 fun _ _ => trivial⟩
theorem sam_L4_is {x y : List (List Ct)} (hb : x.length ≤ 1048576) (hl : y.length = x.length) (h : ∀ k, k < x.length → (rd x k 0).int = (rd y k 0).int ∧ (rd x k 1).int = (rd y k 1).int ∧ (rd x k 2).int = (rd y k 2).int ∧ (rd x k 3).int = (rd y k 3).int) : sam_L4_p x y = true ∧ isL (sam_L4_v x y) = true := by
  obtain ⟨r, h1, h2⟩ := iter_chk (step := sam_L4_step x y) (n := x.length) (m := x.length + 1) (c := fun _ => True) (fun k hk => ⟨fun _ => by
    have q : (k : Int) < (x.length : Int) := by omega
    have q2 : (0 : Int) ≤ (k : Int) ∧ (k : Int) < (x.length : Int) := by omega
    have q3 : (0 : Int) ≤ (k : Int) ∧ (k : Int) < (y.length : Int) := by omega
    have e := h k hk
    simp only [sam_L4_step, cond_dec q, cond_dec q2, cond_dec q3, Int.toNat_natCast, e, beq_self_eq_true, Bool.and_self, Bool.and_true, Bool.not_true, Bool.not_false, cond_false, wrap_succ (k := k) (by omega)]
    rfl, fun h => absurd trivial h⟩) (by
    have q : ¬ ((x.length : Int) < (x.length : Int)) := by omega
    simp only [sam_L4_step, cond_not q]) (by omega)
  exact ⟨by unfold sam_L4_p; rw [h1]; rfl, by unfold sam_L4_v; rw [h1]; exact h2.2 fun _ _ => trivial⟩
theorem sam_L6_is {x y : List (List Ct)} (hb : x.length ≤ 1048576) (hl : y.length = x.length) (h : ∀ k, k < x.length → (rd x k 0).int = (rd y k 0).int ∧ (rd x k 1).int = (rd y k 1).int ∧ (rd x k 2).int = (rd y k 2).int ∧ (rd x k 3).int = (rd y k 3).int ∧ (rd x k 4).int = (rd y k 4).int ∧ (rd x k 5).int = (rd y k 5).int ∧ (rd x k 6).int = (rd y k 6).int ∧ (rd x k 7).int = (rd y k 7).int ∧ (rd x k 8).int = (rd y k 8).int ∧ (rd x k 9).int = (rd y k 9).int ∧ (rd x k 10).int = (rd y k 10).int ∧ (rd x k 11).int = (rd y k 11).int ∧ (rd x k 12).int = (rd y k 12).int) : sam_L6_p x y = true ∧ isL (sam_L6_v x y) = true := by
  obtain ⟨r, h1, h2⟩ := iter_chk (step := sam_L6_step x y) (n := x.length) (m := x.length + 1) (c := fun _ => True) (fun k hk => ⟨fun _ => by
    have q : (k : Int) < (x.length : Int) := by omega
    have q2 : (0 : Int) ≤ (k : Int) ∧ (k : Int) < (x.length : Int) := by omega
    have q3 : (0 : Int) ≤ (k : Int) ∧ (k : Int) < (y.length : Int) := by omega
    have e := h k hk
    simp only [sam_L6_step, cond_dec q, cond_dec q2, cond_dec q3, Int.toNat_natCast, e, beq_self_eq_true, Bool.and_self, Bool.and_true, Bool.not_true, Bool.not_false, cond_false, wrap_succ (k := k) (by omega)]
    rfl, fun h => absurd trivial h⟩) (by
    have q : ¬ ((x.length : Int) < (x.length : Int)) := by omega
    simp only [sam_L6_step, cond_not q]) (by omega)
  exact ⟨by unfold sam_L6_p; rw [h1]; rfl, by unfold sam_L6_v; rw [h1]; exact h2.2 fun _ _ => trivial⟩
theorem sam_L2_is {x y : List (List Ct)} (hb : x.length ≤ 1048576) (hl : y.length = x.length) (h : ∀ k, k < x.length → (rd x k 0).int = (rd y k 0).int ∧ rsa_res (rd y k 0).int (rd x k 1).rows (rd y k 0).int (rd y k 1).rows = some true ∧ rsa_v (rd y k 0).int (rd x k 1).rows (rd y k 0).int (rd y k 1).rows = true) : sam_L2_p x y = true ∧ isL (sam_L2_v x y) = true := by
  obtain ⟨r, h1, h2⟩ := iter_chk (step := sam_L2_step x y) (n := x.length) (m := x.length + 1) (c := fun _ => True) (fun k hk => ⟨fun _ => by
    have q : (k : Int) < (x.length : Int) := by omega
    have q2 : (0 : Int) ≤ (k : Int) ∧ (k : Int) < (x.length : Int) := by omega
    have q3 : (0 : Int) ≤ (k : Int) ∧ (k : Int) < (y.length : Int) := by omega
    obtain ⟨e1, e2, e3⟩ := h k hk
    simp only [sam_L2_step, cond_dec q, cond_dec q2, cond_dec q3, Int.toNat_natCast, e1, e2, e3, Option.isSome_some, cond_true, Bool.not_true, cond_false, wrap_succ (k := k) (by omega)]
    rfl, fun h => absurd trivial h⟩) (by
    have q : ¬ ((x.length : Int) < (x.length : Int)) := by omega
    simp only [sam_L2_step, cond_not q]) (by omega)
  exact ⟨by unfold sam_L2_p; rw [h1]; rfl, by unfold sam_L2_v; rw [h1]; exact h2.2 fun _ _ => trivial⟩
theorem sam_ok {x0 x1 x2 x3 x4 x5 x6 x7 x8 x9 x10 x11 x12 : Int} {P T J S : List (List Ct)} (hP : P.length ≤ 1048576) (hT : T.length ≤ 1048576) (hK : ∀ k, k < T.length → (rd T k 1).rows.length ≤ 1048576) (hJ : J.length ≤ 1048576) (hS : S.length ≤ 1048576) :
    sam_res x0 x1 x2 x3 x4 x5 x6 x7 x8 x9 x10 x11 x12 (cP P) (cT T) (cJ J) (cS S) x0 x1 x2 x3 x4 x5 x6 x7 x8 x9 x10 x11 x12 P T J S = some true ∧ sam_v x0 x1 x2 x3 x4 x5 x6 x7 x8 x9 x10 x11 x12 (cP P) (cT T) (cJ J) (cS S) x0 x1 x2 x3 x4 x5 x6 x7 x8 x9 x10 x11 x12 P T J S = true := by
  obtain ⟨p1, p2⟩ := sam_L0_is (x := cP P) (y := P) (by rw [cP_length]; exact hP) cP_length.symm (fun k hk => cP_rd (by rw [cP_length] at hk; exact hk))
  obtain ⟨t1, t2⟩ := sam_L2_is (x := cT T) (y := T) (by rw [cT_length]; exact hT) cT_length.symm (fun k hk => by
    rw [cT_length] at hk
    obtain ⟨e1, e2⟩ := cT_rd hk
    refine ⟨e1, ?_⟩
    rw [e2]
    exact rsa_ok (by rw [cK_length]; exact hK k hk) cK_length.symm (fun i hi => cK_rd (by rw [cK_length] at hi; exact hi)))
  obtain ⟨j1, j2⟩ := sam_L4_is (x := cJ J) (y := J) (by rw [cJ_length]; exact hJ) cJ_length.symm (fun k hk => cJ_rd (by rw [cJ_length] at hk; exact hk))
  obtain ⟨s1, s2⟩ := sam_L6_is (x := cS S) (y := S) (by rw [cS_length]; exact hS) cS_length.symm (fun k hk => cS_rd (by rw [cS_length] at hk; exact hk))
  have h : sam_res x0 x1 x2 x3 x4 x5 x6 x7 x8 x9 x10 x11 x12 (cP P) (cT T) (cJ J) (cS S) x0 x1 x2 x3 x4 x5 x6 x7 x8 x9 x10 x11 x12 P T J S = some true := by
    unfold sam_res
    rw [p1, p2, t1, t2, j1, j2, s1, s2, cP_length, cT_length, cJ_length, cS_length]
    simp
  exact ⟨h, by unfold sam_v; rw [h]; rfl⟩
end Go.Proofs.Ytcpbiijegbbafaa
