/- Scenes in plain numbers: to the program's. No condition. -/
import Derived.Test.YtcpbiijegbbafaaEngScene4
import Derived.Test.YtcpbiijegbbafaaSceneLaw
set_option linter.unusedVariables false
set_option linter.unusedSimpArgs false
namespace Go.Proofs.Ytcpbiijegbbafaa
open Go.RowKit

theorem tky_L0_it {x : List (List Ct)} (hb : x.length ≤ 1048576) : iter (tky_L0_step x) (x.length + 1) (0, []) = some ((x.length : Int), cK x) := by
  refine iter_run (step := tky_L0_step x) (n := x.length) (fun k => ((k : Int), tab (gK x) k)) rfl (fun k hk' => ?_) ?_ (by omega)
  · have q : (k : Int) < (x.length : Int) := by omega
    have q2 : (0 : Int) ≤ (k : Int) ∧ (k : Int) < (x.length : Int) := by omega
    simp only [tky_L0_step, cond_dec q, cond_dec q2, wrap_succ (k := k) (by omega), Int.toNat_natCast]
    rw [cond_dec (by simp only [tab_length, List.length_cons, List.length_nil]; omega), ← tab_succ]
    rfl
  · have q : ¬ ((x.length : Int) < (x.length : Int)) := by omega
    simp only [tky_L0_step, cond_not q]
    rfl
theorem tky_L0_is {x : List (List Ct)} (hb : x.length ≤ 1048576) : tky_L0_p x = true ∧ (tky_L0_v x).2 = cK x := by
  have h := tky_L0_it hb
  exact ⟨by unfold tky_L0_p; rw [h]; rfl, by unfold tky_L0_v loopRes; rw [h]; rfl⟩
theorem tky_ok {x : List (List Ct)} (hb : x.length ≤ 1048576) : tky_res x = some (cK x) ∧ tky_v x = cK x := by
  obtain ⟨h1, h2⟩ := tky_L0_is hb
  have h : tky_res x = some (cK x) := by unfold tky_res; rw [h1, h2]; rfl
  exact ⟨h, by unfold tky_v; rw [h]; rfl⟩
theorem sto_L0_it {x : List (List Ct)} (hb : x.length ≤ 1048576) : iter (sto_L0_step x) (x.length + 1) (0, []) = some ((x.length : Int), cP x) := by
  refine iter_run (step := sto_L0_step x) (n := x.length) (fun k => ((k : Int), tab (gP x) k)) rfl (fun k hk' => ?_) ?_ (by omega)
  · have q : (k : Int) < (x.length : Int) := by omega
    have q2 : (0 : Int) ≤ (k : Int) ∧ (k : Int) < (x.length : Int) := by omega
    simp only [sto_L0_step, cond_dec q, cond_dec q2, wrap_succ (k := k) (by omega), Int.toNat_natCast]
    rw [cond_dec (by simp only [tab_length, List.length_cons, List.length_nil]; omega), ← tab_succ]
    rfl
  · have q : ¬ ((x.length : Int) < (x.length : Int)) := by omega
    simp only [sto_L0_step, cond_not q]
    rfl
theorem sto_L0_is {x : List (List Ct)} (hb : x.length ≤ 1048576) : sto_L0_p x = true ∧ (sto_L0_v x).2 = cP x := by
  have h := sto_L0_it hb
  exact ⟨by unfold sto_L0_p; rw [h]; rfl, by unfold sto_L0_v loopRes; rw [h]; rfl⟩
theorem sto_L2_it {x : List (List Ct)} (hb : x.length ≤ 1048576) (hk : ∀ k, k < x.length → (rd x k 1).rows.length ≤ 1048576) : iter (sto_L2_step x) (x.length + 1) (0, []) = some ((x.length : Int), cT x) := by
  refine iter_run (step := sto_L2_step x) (n := x.length) (fun k => ((k : Int), tab (gT x) k)) rfl (fun k hk' => ?_) ?_ (by omega)
  · have q : (k : Int) < (x.length : Int) := by omega
    have q2 : (0 : Int) ≤ (k : Int) ∧ (k : Int) < (x.length : Int) := by omega
    have e := hk k hk'
    simp only [sto_L2_step, cond_dec q, cond_dec q2, wrap_succ (k := k) (by omega), Int.toNat_natCast, (tky_ok e).1, (tky_ok e).2, Option.isSome_some, cond_true]
    rw [cond_dec (by simp only [tab_length, List.length_cons, List.length_nil]; omega), ← tab_succ]
    rfl
  · have q : ¬ ((x.length : Int) < (x.length : Int)) := by omega
    simp only [sto_L2_step, cond_not q]
    rfl
theorem sto_L2_is {x : List (List Ct)} (hb : x.length ≤ 1048576) (hk : ∀ k, k < x.length → (rd x k 1).rows.length ≤ 1048576) : sto_L2_p x = true ∧ (sto_L2_v x).2 = cT x := by
  have h := sto_L2_it hb hk
  exact ⟨by unfold sto_L2_p; rw [h]; rfl, by unfold sto_L2_v loopRes; rw [h]; rfl⟩
theorem sto_L4_it {x : List (List Ct)} (hb : x.length ≤ 1048576) : iter (sto_L4_step x) (x.length + 1) (0, []) = some ((x.length : Int), cJ x) := by
  refine iter_run (step := sto_L4_step x) (n := x.length) (fun k => ((k : Int), tab (gJ x) k)) rfl (fun k hk' => ?_) ?_ (by omega)
  · have q : (k : Int) < (x.length : Int) := by omega
    have q2 : (0 : Int) ≤ (k : Int) ∧ (k : Int) < (x.length : Int) := by omega
    simp only [sto_L4_step, cond_dec q, cond_dec q2, wrap_succ (k := k) (by omega), Int.toNat_natCast]
    rw [cond_dec (by simp only [tab_length, List.length_cons, List.length_nil]; omega), ← tab_succ]
    rfl
  · have q : ¬ ((x.length : Int) < (x.length : Int)) := by omega
    simp only [sto_L4_step, cond_not q]
    rfl
theorem sto_L4_is {x : List (List Ct)} (hb : x.length ≤ 1048576) : sto_L4_p x = true ∧ (sto_L4_v x).2 = cJ x := by
  have h := sto_L4_it hb
  exact ⟨by unfold sto_L4_p; rw [h]; rfl, by unfold sto_L4_v loopRes; rw [h]; rfl⟩
theorem sto_L6_it {x : List (List Ct)} (hb : x.length ≤ 1048576) : iter (sto_L6_step x) (x.length + 1) (0, []) = some ((x.length : Int), cS x) := by
  refine iter_run (step := sto_L6_step x) (n := x.length) (fun k => ((k : Int), tab (gS x) k)) rfl (fun k hk' => ?_) ?_ (by omega)
  · have q : (k : Int) < (x.length : Int) := by omega
    have q2 : (0 : Int) ≤ (k : Int) ∧ (k : Int) < (x.length : Int) := by omega
    simp only [sto_L6_step, cond_dec q, cond_dec q2, wrap_succ (k := k) (by omega), Int.toNat_natCast]
    rw [cond_dec (by simp only [tab_length, List.length_cons, List.length_nil]; omega), ← tab_succ]
    rfl
  · have q : ¬ ((x.length : Int) < (x.length : Int)) := by omega
    simp only [sto_L6_step, cond_not q]
    rfl
theorem sto_L6_is {x : List (List Ct)} (hb : x.length ≤ 1048576) : sto_L6_p x = true ∧ (sto_L6_v x).2 = cS x := by
  have h := sto_L6_it hb
  exact ⟨by unfold sto_L6_p; rw [h]; rfl, by unfold sto_L6_v loopRes; rw [h]; rfl⟩
theorem sto_ok {x0 x1 x2 x3 x4 x5 x6 x7 x8 x9 x10 x11 x12 : Int} {P T J S : List (List Ct)} (hP : P.length ≤ 1048576) (hT : T.length ≤ 1048576) (hK : ∀ k, k < T.length → (rd T k 1).rows.length ≤ 1048576) (hJ : J.length ≤ 1048576) (hS : S.length ≤ 1048576) :
    sto_res x0 x1 x2 x3 x4 x5 x6 x7 x8 x9 x10 x11 x12 P T J S = some (x0, x1, x2, x3, x4, x5, x6, x7, x8, x9, x10, x11, x12, cP P, cT T, cJ J, cS S) ∧ sto_v x0 x1 x2 x3 x4 x5 x6 x7 x8 x9 x10 x11 x12 P T J S = (x0, x1, x2, x3, x4, x5, x6, x7, x8, x9, x10, x11, x12, cP P, cT T, cJ J, cS S) := by
  obtain ⟨h1, h2⟩ := sto_L0_is hP
  obtain ⟨h3, h4⟩ := sto_L2_is hT hK
  obtain ⟨h5, h6⟩ := sto_L4_is hJ
  obtain ⟨h7, h8⟩ := sto_L6_is hS
  have h : sto_res x0 x1 x2 x3 x4 x5 x6 x7 x8 x9 x10 x11 x12 P T J S = some (x0, x1, x2, x3, x4, x5, x6, x7, x8, x9, x10, x11, x12, cP P, cT T, cJ J, cS S) := by unfold sto_res; rw [h1, h2, h3, h4, h5, h6, h7, h8]; rfl
  exact ⟨h, by unfold sto_v; rw [h]; rfl⟩
end Go.Proofs.Ytcpbiijegbbafaa
