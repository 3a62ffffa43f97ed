/- The law GradeSteps: it answers true for all values. No condition. -/
import Derived.Test.YtonlllijdbjkaaaGradeStepsT
import Derived.Test.YtonlllijdbjkaaaFilmLaw
import Derived.Test.YtonlllijdbjkaaaLoopA
set_option linter.unusedVariables false
set_option linter.unusedSimpArgs false
namespace Go.Proofs.Ytonlllijdbjkaaa
open Go.RowKit

theorem iter_try {A V R : Type} {step : V → Option (V ⊕ R)} (S : Nat → A → V) (Inv : Nat → A → Prop) (f : Nat → A → A) (bad : R → Prop) (good : A → R → Prop) {n : Nat}
    (hin : ∀ k, k < n → ∀ a, Inv k a → (step (S k a) = some (.inl (S (k + 1) (f k a))) ∧ Inv (k + 1) (f k a)) ∨ ∃ r, step (S k a) = some (.inr r) ∧ bad r) (hout : ∀ a, Inv n a → ∃ r, step (S n a) = some (.inr r) ∧ good a r) :
    ∀ (d k m : Nat) (a : A), k + d = n → d < m → Inv k a → ∃ r, iter step m (S k a) = some r ∧ (bad r ∨ ∃ a, Inv n a ∧ good a r) := by
  intro d
  induction d with
  | zero =>
    intro k m a hk hm hi
    obtain ⟨m, rfl⟩ : ∃ m', m = m' + 1 := ⟨m - 1, by omega⟩
    obtain rfl : k = n := by omega
    obtain ⟨r, h1, h2⟩ := hout a hi
    exact ⟨r, by simp [iter, h1], .inr ⟨a, hi, h2⟩⟩
  | succ d ih =>
    intro k m a hk hm hi
    obtain ⟨m, rfl⟩ : ∃ m', m = m' + 1 := ⟨m - 1, by omega⟩
    rcases hin k (by omega) a hi with ⟨h1, h2⟩ | ⟨r, h1, h2⟩
    · simp only [iter, h1]
      exact ih (k + 1) m _ (by omega) (by omega) h2
    · exact ⟨r, by simp [iter, h1], .inl h2⟩
theorem tab_congr {f g : Nat → List Ct} {n : Nat} (h : ∀ k, k < n → f k = g k) : tab f n = tab g n := List.map_congr_left fun k hk => h k (List.mem_range.1 hk)
theorem lumaDown (s : Int) (h : -30000000000 ≤ s ∧ s ≤ 30000000000) : IntKind.i64.wrap ((IntKind.i64.wrap (s - bif decide (s.tmod 8 < 0) then IntKind.i64.wrap (s.tmod 8 + 8) else s.tmod 8)).tdiv 8) = s / 8 := by
  have h2 := Int.tmod_lt_of_pos s (show (0 : Int) < 8 by omega)
  have h3 := Int.lt_tmod_of_pos s (show (0 : Int) < 8 by omega)
  have hc := down_core s 8 (by omega)
  rw [wrap_in (n := s.tmod 8 + 8) (by omega) (by omega), Bool.cond_decide, wrap_in (n := s - _) (by split <;> omega) (by split <;> omega)]
  have e : (s - if s.tmod 8 < 0 then s.tmod 8 + 8 else s.tmod 8).tdiv 8 = s / 8 := by
    rw [← hc]; split <;> rfl
  rw [e, wrap_in (by omega) (by omega)]
theorem luma_eq (a b c : Int) : qluma_v a b c = hluma_v a b c := by
  have ha := heldS_bd a
  have hb := heldS_bd b
  have hc := heldS_bd c
  unfold qluma_v hluma_v
  rw [wrap_in (n := 2 * heldS a) (by omega) (by omega), wrap_in (n := 5 * heldS b) (by omega) (by omega), wrap_in (n := 2 * heldS a + 5 * heldS b) (by omega) (by omega), wrap_in (n := 2 * heldS a + 5 * heldS b + heldS c) (by omega) (by omega), lumaDown _ (by omega)]
  rw [show (2 : Int) ^ min (Int.toNat 3) IntKind.i64.bits = 8 from rfl, Int.fdiv_eq_ediv_of_nonneg _ (by omega)]

/-! ### A step, done to a light -/
noncomputable def hstep (l : List (List Ct)) (k : Nat) (h : Int × Int × Int) : Int × Int × Int :=
  bif (rd l k 0).int == 0 then (atV (rd l k 1).rows h.1, atV (rd l k 1).rows h.2.1, atV (rd l k 1).rows h.2.2)
  else bif (rd l k 0).int == 1 then hscale_v h.1 h.2.1 h.2.2 (rd l k 2).int
  else bif (rd l k 0).int == 2 then hmul_v h.1 h.2.1 h.2.2 (rd l k 4).int (rd l k 5).int (rd l k 6).int
  else bif (rd l k 0).int == 3 then hmix_v h.1 h.2.1 h.2.2 (hluma_v h.1 h.2.1 h.2.2) (hluma_v h.1 h.2.1 h.2.2) (hluma_v h.1 h.2.1 h.2.2) (rd l k 2).int
  else bif (rd l k 0).int == 4 then
    hadd_v (rd l k 2).int (rd l k 2).int (rd l k 2).int (hscale_v (hsub_v h.1 h.2.1 h.2.2 (rd l k 2).int (rd l k 2).int (rd l k 2).int).1 (hsub_v h.1 h.2.1 h.2.2 (rd l k 2).int (rd l k 2).int (rd l k 2).int).2.1 (hsub_v h.1 h.2.1 h.2.2 (rd l k 2).int (rd l k 2).int (rd l k 2).int).2.2 (rd l k 3).int).1 (hscale_v (hsub_v h.1 h.2.1 h.2.2 (rd l k 2).int (rd l k 2).int (rd l k 2).int).1 (hsub_v h.1 h.2.1 h.2.2 (rd l k 2).int (rd l k 2).int (rd l k 2).int).2.1 (hsub_v h.1 h.2.1 h.2.2 (rd l k 2).int (rd l k 2).int (rd l k 2).int).2.2 (rd l k 3).int).2.1 (hscale_v (hsub_v h.1 h.2.1 h.2.2 (rd l k 2).int (rd l k 2).int (rd l k 2).int).1 (hsub_v h.1 h.2.1 h.2.2 (rd l k 2).int (rd l k 2).int (rd l k 2).int).2.1 (hsub_v h.1 h.2.1 h.2.2 (rd l k 2).int (rd l k 2).int (rd l k 2).int).2.2 (rd l k 3).int).2.2
  else h
noncomputable def stpC (l : List (List Ct)) (k : Nat) : Ct :=
  bif (rd l k 0).int == 0 then .l [[.i 0], [.l ([] ++ gto_v (rd l k 1).rows)]]
  else bif (rd l k 0).int == 1 then .l [[.i 1], [.i (rd l k 2).int]]
  else bif (rd l k 0).int == 2 then .l [[.i 2], [.i (rd l k 4).int, .i (rd l k 5).int, .i (rd l k 6).int]]
  else bif (rd l k 0).int == 3 then .l [[.i 3], [.i (rd l k 2).int]]
  else bif (rd l k 0).int == 4 then .l [[.i 4], [.i (rd l k 2).int, .i (rd l k 2).int, .i (rd l k 2).int], [.i (rd l k 3).int]]
  else .l [[.i 99]]
noncomputable def stpL (l : List (List Ct)) : List (List Ct) := tab (fun k => [stpC l k]) l.length
theorem gto_same (x0 : List (List Ct)) : SameL (gto_v x0) x0 := by
  refine ⟨tab_length _ _, fun k hk => ?_, fun k hk => ?_⟩
  · have hk' : k < x0.length := by rw [show (gto_v x0).length = x0.length from tab_length _ _] at hk; exact hk
    unfold gto_v
    rw [rd_tab hk']; rfl
  · have hk' : k < x0.length := by rw [show (gto_v x0).length = x0.length from tab_length _ _] at hk; exact hk
    unfold gto_v
    rw [rd_tab hk']; rfl
theorem cat_gto (c : List (List Ct)) (x : Int) : cat_v ([] ++ gto_v c) x = atV c x := (gto_same c).at' x
theorem kind_cases (n : Int) : n = 0 ∨ n = 1 ∨ n = 2 ∨ n = 3 ∨ n = 4 ∨ (n ≠ 0 ∧ n ≠ 1 ∧ n ≠ 2 ∧ n ≠ 3 ∧ n ≠ 4) := by omega
theorem chn_at (l : List (List Ct)) (hl : l.length ≤ 20) (k : Nat) (hk : k < l.length) (h : Int × Int × Int) : chn_L0_step (stpL l) ((k : Int), h) = some (.inl (((k + 1 : Nat) : Int), hstep l k h)) := by
  obtain ⟨a, b, c⟩ := h
  have e : rd (stpL l) ((k : Int).toNat) 0 = stpC l k := by rw [Int.toNat_natCast]; unfold stpL; rw [rd_tab hk]; rfl
  have hn : (stpL l).length = l.length := tab_length _ _
  have w := wrap_succ (k := k) (by omega)
  have t1 : decide ((k : Int) < (l.length : Int)) = true := by simp; omega
  have t2 : decide ((0 : Int) ≤ (k : Int) ∧ (k : Int) < (l.length : Int)) = true := by simp; omega
  rcases kind_cases (rd l k 0).int with q | q | q | q | q | ⟨q0, q1, q2, q3, q4⟩
  · have e1 : stpC l k = .l [[.i 0], [.l ([] ++ gto_v (rd l k 1).rows)]] := by unfold stpC; rw [q]; rfl
    have e2 : hstep l k (a, b, c) = (atV (rd l k 1).rows a, atV (rd l k 1).rows b, atV (rd l k 1).rows c) := by unfold hstep; rw [q]; rfl
    rw [e2]
    unfold chn_L0_step chn_c36219139 chn_c88515008 chn_c61626667
    dsimp only
    rw [e, e1, hn, t1, t2, w]
    show some (Sum.inl (((k + 1 : Nat) : Int), cat_v ([] ++ gto_v (rd l k 1).rows) a, cat_v ([] ++ gto_v (rd l k 1).rows) b, cat_v ([] ++ gto_v (rd l k 1).rows) c)) = _
    rw [cat_gto, cat_gto, cat_gto]
  · have e1 : stpC l k = .l [[.i 1], [.i (rd l k 2).int]] := by unfold stpC; rw [q]; rfl
    have e2 : hstep l k (a, b, c) = hscale_v a b c (rd l k 2).int := by unfold hstep; rw [q]; rfl
    rw [e2]
    unfold chn_L0_step chn_c13006010
    dsimp only
    rw [e, e1, hn, t1, t2, w]
    rfl
  · have e1 : stpC l k = .l [[.i 2], [.i (rd l k 4).int, .i (rd l k 5).int, .i (rd l k 6).int]] := by unfold stpC; rw [q]; rfl
    have e2 : hstep l k (a, b, c) = hmul_v a b c (rd l k 4).int (rd l k 5).int (rd l k 6).int := by unfold hstep; rw [q]; rfl
    rw [e2]
    unfold chn_L0_step chn_c92238473
    dsimp only
    rw [e, e1, hn, t1, t2, w]
    rfl
  · have e1 : stpC l k = .l [[.i 3], [.i (rd l k 2).int]] := by unfold stpC; rw [q]; rfl
    have e2 : hstep l k (a, b, c) = hmix_v a b c (hluma_v a b c) (hluma_v a b c) (hluma_v a b c) (rd l k 2).int := by unfold hstep; rw [q]; rfl
    rw [e2]
    unfold chn_L0_step chn_c24348582 chn_c88911814
    dsimp only
    rw [e, e1, hn, t1, t2, w]
    rfl
  · have e1 : stpC l k = .l [[.i 4], [.i (rd l k 2).int, .i (rd l k 2).int, .i (rd l k 2).int], [.i (rd l k 3).int]] := by unfold stpC; rw [q]; rfl
    unfold chn_L0_step chn_c47665202 chn_c22000162 chn_c83687266 hstep
    dsimp only
    rw [e, e1, hn, t1, t2, w, q]
    rfl
  · have e1 : stpC l k = .l [[.i 99]] := by
      unfold stpC; rw [beq_eq_false_iff_ne.2 q0, beq_eq_false_iff_ne.2 q1, beq_eq_false_iff_ne.2 q2, beq_eq_false_iff_ne.2 q3, beq_eq_false_iff_ne.2 q4]; rfl
    have e2 : hstep l k (a, b, c) = (a, b, c) := by
      unfold hstep; rw [beq_eq_false_iff_ne.2 q0, beq_eq_false_iff_ne.2 q1, beq_eq_false_iff_ne.2 q2, beq_eq_false_iff_ne.2 q3, beq_eq_false_iff_ne.2 q4]; rfl
    rw [e2]
    unfold chn_L0_step
    dsimp only
    rw [e, e1, hn, t1, t2, w]
    rfl
theorem rsh_at (l : List (List Ct)) (hl : l.length ≤ 20) (k : Nat) (hk : k < l.length) (h : Int × Int × Int) : rsh_L2_step l ((k : Int), h) = some (.inl (((k + 1 : Nat) : Int), hstep l k h)) := by
  obtain ⟨a, b, c⟩ := h
  have w := wrap_succ (k := k) (by omega)
  have t1 : decide ((k : Int) < (l.length : Int)) = true := by simp; omega
  have t2 : decide ((0 : Int) ≤ (k : Int) ∧ (k : Int) < (l.length : Int)) = true := by simp; omega
  rcases kind_cases (rd l k 0).int with q | q | q | q | q | ⟨q0, q1, q2, q3, q4⟩
  · unfold rsh_L2_step rsh_c13883424 rsh_c12954277 rsh_c77876471 hstep
    dsimp only
    rw [Int.toNat_natCast, t1, t2, w, q]
    rfl
  · unfold rsh_L2_step rsh_c79920004 hstep
    dsimp only
    rw [Int.toNat_natCast, t1, t2, w, q]
    rfl
  · unfold rsh_L2_step rsh_c11130864 hstep
    dsimp only
    rw [Int.toNat_natCast, t1, t2, w, q]
    rfl
  · unfold rsh_L2_step rsh_c35580365 hstep
    dsimp only
    rw [Int.toNat_natCast, t1, t2, w, q, luma_eq]
    rfl
  · unfold rsh_L2_step rsh_c56624012 rsh_c25592496 rsh_c97729649 hstep
    dsimp only
    rw [Int.toNat_natCast, t1, t2, w, q]
    rfl
  · unfold rsh_L2_step hstep
    dsimp only
    rw [Int.toNat_natCast, t1, t2, w, beq_eq_false_iff_ne.2 q0, beq_eq_false_iff_ne.2 q1, beq_eq_false_iff_ne.2 q2, beq_eq_false_iff_ne.2 q3, beq_eq_false_iff_ne.2 q4]
    rfl
theorem chn_iter (l : List (List Ct)) (hl : l.length ≤ 20) (h : Int × Int × Int) : iter (chn_L0_step (stpL l)) ((stpL l).length + 1) (0, h) = some ((l.length : Int), nfold (hstep l) l.length h) := by
  have hn : (stpL l).length = l.length := tab_length _ _
  rw [hn]
  refine iter_range (A := Int × Int × Int) (fun k a => ((k : Int), a)) (fun _ _ => True) (f := hstep l) (out := fun a => ((l.length : Int), a)) rfl (by omega) (fun k hk a _ => ⟨chn_at l hl k hk a, trivial⟩) (fun a _ => ?_) trivial
  unfold chn_L0_step
  dsimp only
  rw [hn]
  simp
theorem rsh_iter (l : List (List Ct)) (hl : l.length ≤ 20) (h : Int × Int × Int) : iter (rsh_L2_step l) (l.length + 1) (0, h) = some ((l.length : Int), nfold (hstep l) l.length h) := by
  refine iter_range (A := Int × Int × Int) (fun k a => ((k : Int), a)) (fun _ _ => True) (f := hstep l) (out := fun a => ((l.length : Int), a)) rfl (by omega) (fun k hk a _ => ⟨rsh_at l hl k hk a, trivial⟩) (fun a _ => ?_) trivial
  unfold rsh_L2_step
  dsimp only
  simp

/-! ### All lights -/
noncomputable def hueAt (L : List (List Ct)) (k : Nat) : Int × Int × Int := ((rd L k 0).int, (rd L k 1).int, (rd L k 2).int)
noncomputable def doneT (l L : List (List Ct)) : List (List Ct) := tab (fun k => [.i (nfold (hstep l) l.length (hueAt L k)).1, .i (nfold (hstep l) l.length (hueAt L k)).2.1, .i (nfold (hstep l) l.length (hueAt L k)).2.2]) L.length
theorem gdo_iter (l L : List (List Ct)) (hl : l.length ≤ 20) (hL : L.length ≤ 2000) : iter (gdo_L0_step L (stpL l)) (L.length + 1) (0, []) = some ((L.length : Int), doneT l L) := by
  refine iter_run (fun k => ((k : Int), tab (fun k => [.i (nfold (hstep l) l.length (hueAt L k)).1, .i (nfold (hstep l) l.length (hueAt L k)).2.1, .i (nfold (hstep l) l.length (hueAt L k)).2.2]) k)) (n := L.length) rfl (fun k hk => ?_) (by unfold gdo_L0_step; simp [doneT]) (by omega)
  have w := wrap_succ (k := k) (by omega)
  have t1 : decide ((k : Int) < (L.length : Int)) = true := by simp; omega
  have t2 : decide ((0 : Int) ≤ (k : Int) ∧ (k : Int) < (L.length : Int)) = true := by simp; omega
  have i0 := chn_iter l hl (hueAt L k)
  have p : chn_L0_p (rd L k 0).int (rd L k 1).int (rd L k 2).int (stpL l) = true := by
    unfold chn_L0_p; rw [show ((0 : Int), (rd L k 0).int, (rd L k 1).int, (rd L k 2).int) = (0, hueAt L k) from rfl, i0]; rfl
  have v : chn_v (rd L k 0).int (rd L k 1).int (rd L k 2).int (stpL l) = nfold (hstep l) l.length (hueAt L k) := by
    unfold chn_v chn_L0_v loopRes; rw [show ((0 : Int), (rd L k 0).int, (rd L k 1).int, (rd L k 2).int) = (0, hueAt L k) from rfl, i0]; rfl
  unfold gdo_L0_step gdo_c32158129
  dsimp only
  rw [Int.toNat_natCast, t1, t2, p, v, w, tab_length, tab_succ]
  have t3 : k + 1 ≤ 9223372036854775807 ∧ (k + 1) * 24 ≤ 140737488355328 := by omega
  simp [t3]
theorem rsh_iter0 (l L : List (List Ct)) (hl : l.length ≤ 20) (hL : L.length ≤ 2000) : iter (rsh_L0_step L l) (L.length + 1) (0, []) = some ((L.length : Int), doneT l L) := by
  refine iter_run (fun k => ((k : Int), tab (fun k => [.i (nfold (hstep l) l.length (hueAt L k)).1, .i (nfold (hstep l) l.length (hueAt L k)).2.1, .i (nfold (hstep l) l.length (hueAt L k)).2.2]) k)) (n := L.length) rfl (fun k hk => ?_) (by unfold rsh_L0_step; simp [doneT]) (by omega)
  have w := wrap_succ (k := k) (by omega)
  have t1 : decide ((k : Int) < (L.length : Int)) = true := by simp; omega
  have t2 : decide ((0 : Int) ≤ (k : Int) ∧ (k : Int) < (L.length : Int)) = true := by simp; omega
  have i0 := rsh_iter l hl (hueAt L k)
  have p : rsh_L2_p L l (k : Int) = true := by
    unfold rsh_L2_p; rw [Int.toNat_natCast, show ((0 : Int), (rd L k 0).int, (rd L k 1).int, (rd L k 2).int) = (0, hueAt L k) from rfl, i0]; rfl
  have v : rsh_L2_v L l (k : Int) = ((l.length : Int), nfold (hstep l) l.length (hueAt L k)) := by
    unfold rsh_L2_v loopRes; rw [Int.toNat_natCast, show ((0 : Int), (rd L k 0).int, (rd L k 1).int, (rd L k 2).int) = (0, hueAt L k) from rfl, i0]; rfl
  unfold rsh_L0_step
  dsimp only
  rw [t1, t2, p, v, w, tab_length, tab_succ]
  have t3 : k + 1 ≤ 9223372036854775807 ∧ (k + 1) * 24 ≤ 140737488355328 := by omega
  simp [t3]
/-- The law's first loop. -/
theorem lgs_one (l : List (List Ct)) (hl : l.length ≤ 20) : ∃ r, iter (lgs_L0_step l) (l.length + 1) (0, []) = some r ∧ (r = .inr () ∨ r = .inl ((l.length : Int), stpL l)) := by
  obtain ⟨r, h1, h2⟩ := iter_try (step := lgs_L0_step l) (A := List (List Ct)) (fun k a => ((k : Int), a)) (fun k a => a = tab (fun k => [stpC l k]) k) (fun k a => a ++ [[stpC l k]]) (fun r => r = .inr ()) (fun a r => r = .inl ((l.length : Int), a)) (n := l.length)
    (fun k hk a hi => by
      subst hi
      have w := wrap_succ (k := k) (by omega)
      have t1 : decide ((k : Int) < (l.length : Int)) = true := by simp; omega
      have t2 : decide ((0 : Int) ≤ (k : Int) ∧ (k : Int) < (l.length : Int)) = true := by simp; omega
      have t3 : k + 1 ≤ 9223372036854775807 ∧ (k + 1) * 8 ≤ 140737488355328 := by omega
      by_cases h40 : (rd l k 1).rows.length ≤ 40
      case neg =>
        refine .inr ⟨_, ?_, rfl⟩
        have t4 : decide (((rd l k 1).rows.length : Int) > 40) = true := by simp; omega
        unfold lgs_L0_step
        dsimp only
        rw [Int.toNat_natCast, t1, t2, t4]
        rfl
      case pos =>
        refine .inl ⟨?_, by rw [tab_succ]⟩
        have t4 : decide (((rd l k 1).rows.length : Int) > 40) = false := by simp; omega
        have t5 : decide ((rd l k 1).rows.length ≤ 1000) = true := by simp; omega
        have g : (gto_v (rd l k 1).rows).length = (rd l k 1).rows.length := tab_length _ _
        have t6 : decide (0 + (gto_v (rd l k 1).rows).length ≤ 9223372036854775807 ∧ (0 + (gto_v (rd l k 1).rows).length) * 16 ≤ 140737488355328) = true := by rw [g]; simp; omega
        unfold lgs_L0_step lgs_c82982525 lgs_c38057113 lgs_c69133014 stpC
        dsimp only
        rw [Int.toNat_natCast, t1, t2, t4, t5, t6, w, tab_length]
        simp only [List.length_singleton, t3, and_self, decide_true, cond_true, cond_false]
        rcases kind_cases (rd l k 0).int with q | q | q | q | q | ⟨q0, q1, q2, q3, q4⟩
        · rw [q]; rfl
        · rw [q]; rfl
        · rw [q]; rfl
        · rw [q]; rfl
        · rw [q]; rfl
        · rw [beq_eq_false_iff_ne.2 q0, beq_eq_false_iff_ne.2 q1, beq_eq_false_iff_ne.2 q2, beq_eq_false_iff_ne.2 q3, beq_eq_false_iff_ne.2 q4]; rfl)
    (fun a hi => ⟨_, by unfold lgs_L0_step; simp, rfl⟩) l.length 0 (l.length + 1) [] (by omega) (by omega) rfl
  refine ⟨r, h1, ?_⟩
  rcases h2 with h2 | ⟨a, ha, h2⟩
  · exact .inl h2
  · right; rw [h2, ha]; rfl
theorem hueAt_tsh (w h : Int) (L : List (List Ct)) {k : Nat} (hk : k < L.length) : hueAt (tsh_v w h L).2.2 k = hueAt L k := by
  unfold hueAt tsh_v
  dsimp only
  rw [rd_tab hk, rd_tab hk, rd_tab hk]
  rfl
theorem doneT_tsh (w h : Int) (l L : List (List Ct)) : doneT l (tsh_v w h L).2.2 = doneT l L := by
  have e : (tsh_v w h L).2.2.length = L.length := tab_length _ _
  unfold doneT
  rw [e]
  exact tab_congr fun k hk => by rw [hueAt_tsh w h L hk]
theorem lgs_true (w h : Int) (L l : List (List Ct)) : lgs_res w h L l = some true := by
  by_cases hL : L.length ≤ 2000
  case neg =>
    have : (2000 : Int) < (L.length : Int) := by omega
    simp [lgs_res, this]
  by_cases hl : l.length ≤ 20
  case neg =>
    have : (20 : Int) < (l.length : Int) := by omega
    simp [lgs_res, this]
  have g1 : decide ((L.length : Int) > 2000) = false := by simp; omega
  have g2 : decide ((l.length : Int) > 20) = false := by simp; omega
  obtain ⟨r, h1, h2⟩ := lgs_one l hl
  have p : lgs_L0_p l = true := by unfold lgs_L0_p; rw [h1]; rfl
  have v : lgs_L0_v l = r := by unfold lgs_L0_v; rw [h1]; rfl
  unfold lgs_res
  rw [g1, g2, p, v]
  rcases h2 with h2 | h2
  · rw [h2]; rfl
  have hs : (stpL l).length = l.length := tab_length _ _
  have t1 : decide (L.length ≤ 1048576) = true := by simp; omega
  have t2 : decide (0 + (stpL l).length ≤ 9223372036854775807 ∧ (0 + (stpL l).length) * 8 ≤ 140737488355328) = true := by rw [hs]; simp; omega
  have gl : (getL (Sum.inl ((l.length : Int), stpL l) : (Int × List (List Ct)) ⊕ Unit)).2 = stpL l := rfl
  have e : (tsh_v w h L).2.2.length = L.length := tab_length _ _
  have i1 := gdo_iter l (tsh_v w h L).2.2 hl (by omega)
  rw [doneT_tsh] at i1
  have p1 : gdo_L0_p (tsh_v w h L).2.2 (stpL l) = true := by unfold gdo_L0_p; rw [i1]; rfl
  have v1 : gdo_L0_v (tsh_v w h L).2.2 (stpL l) = (((tsh_v w h L).2.2.length : Int), doneT l L) := by unfold gdo_L0_v loopRes; rw [i1]; rfl
  have i2 := rsh_iter0 l L hl hL
  have p2 : rsh_L0_p L l = true := by unfold rsh_L0_p; rw [i2]; rfl
  have v2 : rsh_L0_v L l = ((L.length : Int), doneT l L) := by unfold rsh_L0_v loopRes; rw [i2]; rfl
  have eg : lgs_c964402 w h L l = gdo_v w h (tsh_v w h L).2.2 (stpL l) := by unfold lgs_c964402; rw [v, h2]; rfl
  have ef : lgs_c14294563 w h L l = fsh_v (gdo_v w h (tsh_v w h L).2.2 (stpL l)).1 (gdo_v w h (tsh_v w h L).2.2 (stpL l)).2.1 (gdo_v w h (tsh_v w h L).2.2 (stpL l)).2.2.2 := by unfold lgs_c14294563; rw [eg]
  have hd : (doneT l L).length = L.length := tab_length _ _
  rw [h2]
  dsimp only [isL]
  rw [gl, t1, List.nil_append, t2, p1, eg, ef, p2]
  unfold lgs_c75551939
  rw [ef]
  by_cases q : shr w h L.length = true
  case pos =>
    have q' := of_decide_eq_true (show decide _ = true from q)
    obtain ⟨a, b, c, d, x⟩ := q'
    have wr : IntKind.i64.wrap (w * h) = w * h := by have m := side_mul a b c d; exact wrap_in (by omega) (by omega)
    have eg : gdo_v w h (tsh_v w h L).2.2 (stpL l) = (w, h, 0, doneT l L) := by unfold gdo_v; rw [e, q, v1]; rfl
    have er : rsh_v w h L l = (w, h, doneT l L) := by unfold rsh_v; rw [v2]
    rw [eg, er, wr]
    have es : ssame_v (fsh_v w h (doneT l L)).1 (fsh_v w h (doneT l L)).2.1 (fsh_v w h (doneT l L)).2.2 w h (doneT l L) = true := by
      refine sheetS_true ⟨rfl, rfl, tab_length _ _, fun k hk => ?_⟩
      have hk' : k < (doneT l L).length := by rw [show (fsh_v w h (doneT l L)).2.2.length = (doneT l L).length from tab_length _ _] at hk; exact hk
      unfold fsh_v
      dsimp only
      rw [rd_tab hk', rd_tab hk', rd_tab hk']
      exact ⟨rfl, rfl, rfl⟩
    have ff : (fsh_v w h (doneT l L)).2.2.length = L.length := (tab_length _ _).trans hd
    have t3 : decide ((doneT l L).length ≤ 1048576) = true := by rw [hd]; exact t1
    have t4 : decide ((fsh_v w h (doneT l L)).2.2.length ≤ 9223372036854775000) = true := by rw [ff]; simp; omega
    dsimp only
    rw [es, t3, t4]
    simp [a, b, c, d, x]
  case neg =>
    have q0 : shr w h L.length = false := by simpa using q
    have eg : gdo_v w h (tsh_v w h L).2.2 (stpL l) = (0, 0, 1, []) := by unfold gdo_v; rw [e, q0]; rfl
    rw [eg]
    have nr : (bif bif decide (w ≥ (1 : Int)) then bif decide (w ≤ (64 : Int)) then bif decide (h ≥ (1 : Int)) then decide (h ≤ (64 : Int)) else false else false else false then (L.length : Int) == IntKind.i64.wrap (w * h) else false) = false := by
      by_cases z : 1 ≤ w ∧ w ≤ 64 ∧ 1 ≤ h ∧ h ≤ 64
      case pos =>
        obtain ⟨a, b, c, d⟩ := z
        have m := side_mul a b c d
        have wr : IntKind.i64.wrap (w * h) = w * h := wrap_in (by omega) (by omega)
        have x : (L.length : Int) ≠ w * h := fun x => q (by unfold shr; exact decide_eq_true ⟨a, b, c, d, x⟩)
        rw [wr, beq_eq_false_iff_ne.2 x]
        simp
      case neg =>
        by_cases a : 1 ≤ w
        case neg => simp [a]
        by_cases b : w ≤ 64
        case neg => simp [b]
        by_cases c : 1 ≤ h
        case neg => simp [c]
        by_cases d : h ≤ 64
        case neg => simp [d]
        exact absurd ⟨a, b, c, d⟩ z
    rw [nr, e, Bool.or_true]
    rfl
theorem lgs_call (x0_0 : Int) (x0_1 : Int) (x0_2 : List (List Ct)) (x1 : List (List Ct)) : CallOk Try.prog 6 [.sv (.agg [.val false (.int .i64 x0_0), .val false (.int .i64 x0_1), .ext 0]), .sv (.one (.ext 1))] [(0, .grid [.int .i64, .int .i64, .int .i64] x0_2), (1, .grid [.int .i64, .sl [.int .i64, .int .i64], .int .i64, .int .i64, .int .i64, .int .i64, .int .i64] x1)] 2 (lgs_O true) := lgs_tree (lgs_true x0_0 x0_1 x0_2 x1)
end Go.Proofs.Ytonlllijdbjkaaa
