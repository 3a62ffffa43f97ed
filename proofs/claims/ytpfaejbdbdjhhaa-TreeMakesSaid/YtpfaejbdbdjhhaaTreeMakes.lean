/- The law TreeMakes: it answers true for all values. No condition. -/
import Derived.Test.YtpfaejbdbdjhhaaTreeMakesT
import Derived.Test.YtpfaejbdbdjhhaaTrR4
import Derived.Test.YtpfaejbdbdjhhaaClosedA
set_option linter.unusedVariables false
set_option linter.unusedSimpArgs false
namespace Go.Proofs.Ytpfaejbdbdjhhaa
open Go.RowKit

theorem lpa_len (x0 : List (List Ct)) (h1 : x0.length ≤ 1000) : (lpa_v x0).length = x0.length ∧ prI (lpa_v x0) = prI x0 := by
  have h := lpa_is h1
  have hv : lpa_v x0 = (lpa_res x0).getD default := rfl
  rw [hv, h]
  exact ⟨tab_length _ _, lpa_pr⟩
theorem ltm_loops {x0 N o o' : List (List Ct)} (h1 : ltm_c25082182 x0 = (o, N)) (h2 : rma_v x0 = (N, o')) (hl : N.length ≤ 900) (ho : col o = col o') (hol : o.length ≤ 900) :
    iter (ltm_L0_step x0) 1000 0 = some (.inl (N.length : Int)) ∧ iter (ltm_L2_step x0) 1000 0 = some (.inl (o.length : Int)) := by
  have hlo : o'.length = o.length := by rw [← col_length, ← ho, col_length]
  constructor
  · refine iter_run (fun k : Nat => (k : Int)) (n := N.length) rfl (fun k hk => ?_) ?_ (by omega)
    · have q1 : (k : Int) < (N.length : Int) := by omega
      have q2 : (0 : Int) ≤ (k : Int) ∧ (k : Int) < (N.length : Int) := ⟨by omega, q1⟩
      have e1 : ∀ x : Int, (x == x) = true := fun x => by simp
      have e2 : ∀ x : Int, (x != x) = false := fun x => by simp
      have e3 : ∀ b : Bool, (b == b) = true := fun b => by cases b <;> rfl
      simp only [ltm_L0_step, h1, h2, cond_dec q1, cond_dec q2, Int.toNat_natCast, e1, e2, e3, Bool.and_self, Bool.not_true, cond_false, wrap_succ (k := k) (by omega)]
    · simp only [ltm_L0_step, h1]
      rw [cond_not (by omega)]
  · refine iter_run (fun k : Nat => (k : Int)) (n := o.length) rfl (fun k hk => ?_) ?_ (by omega)
    · have q1 : (k : Int) < (o.length : Int) := by omega
      have q2 : (0 : Int) ≤ (k : Int) ∧ (k : Int) < (o.length : Int) := ⟨by omega, q1⟩
      have e4 : (rd o k 0).int = (rd o' k 0).int := by rw [rd_col, rd_col, ho]
      have e2 : ∀ x : Int, (x != x) = false := fun x => by simp
      simp only [ltm_L2_step, h1, h2, hlo, cond_dec q1, cond_dec q2, Int.toNat_natCast, e4, e2, cond_false, wrap_succ (k := k) (by omega)]
    · simp only [ltm_L2_step, h1]
      rw [cond_not (by omega)]
theorem ltm_fin {x0 N o o' : List (List Ct)} (hc : ¬ (x0.length : Int) > 140) (a1 : (lpa_res x0).isSome = true) (a2 : (tma_res (lpa_v x0)).isSome = true) (a3 : (rma_res x0).isSome = true) (h1 : ltm_c25082182 x0 = (o, N)) (h2 : rma_v x0 = (N, o')) (hl : N.length ≤ 900) (ho : col o = col o') (hol : o.length ≤ 900)
    (d : tdpd_p N o 0 = true ∧ rdpd_p N o' 0 = true ∧ tdpd_v N o 0 = rdpd_v N o' 0) : ltm_res x0 = some true := by
  obtain ⟨i0, i2⟩ := ltm_loops h1 h2 hl ho hol
  have hlo : o'.length = o.length := by rw [← col_length, ← ho, col_length]
  have p0 : ltm_L0_p x0 = true := by unfold ltm_L0_p; rw [i0]; rfl
  have v0 : ltm_L0_v x0 = .inl (N.length : Int) := by unfold ltm_L0_v; rw [i0]; rfl
  have p2 : ltm_L2_p x0 = true := by unfold ltm_L2_p; rw [i2]; rfl
  have v2 : ltm_L2_v x0 = .inl (o.length : Int) := by unfold ltm_L2_v; rw [i2]; rfl
  have e2 : ∀ x : Int, (x != x) = false := fun x => by simp
  have t1 : ltm_c73194489 x0 = tdpd_v N o 0 := by unfold ltm_c73194489; rw [h1]
  have t2 : ltm_c97770097 x0 = tdpd_v N o 0 := by unfold ltm_c97770097; rw [h2, d.2.2]
  simp only [ltm_res, cond_not hc, a1, a2, a3, h1, h2, hlo, e2, d.1, d.2.1, Bool.and_self, cond_true, cond_false, t1, t2, p0, v0, isL, p2, v2]
theorem ltm_true {x0 : List (List Ct)} (h0 : 0 < x0.length) : ltm_res x0 = some true := by
  by_cases c1 : (x0.length : Int) > 140
  · simp only [ltm_res, cond_dec c1]
  obtain ⟨l1, l2⟩ := lpa_len x0 (by omega)
  have a1 : (lpa_res x0).isSome = true := by rw [lpa_is (by omega)]; rfl
  by_cases c2 : x0.length ≤ 128
  · obtain ⟨o, t1, t2⟩ := tma_is (x0 := lpa_v x0) (by omega) (by omega)
    obtain ⟨o', r1, r2⟩ := rma_is h0 c2
    rw [l1, nodes_congr l2] at t1 t2
    have ip : 0 < (idsL x0.length).length ∧ (idsL x0.length).length ≤ 141 := by rw [idsL_length]; omega
    obtain ⟨n1, n2, n3⟩ := nodes_perm x0 141 0 0 (idsL x0.length) ip.1 ip.2
    have nl := nodes_lead x0 141 0 0 (idsL x0.length) ip.1 ip.2
    rw [idsL_length] at n2
    have n1l := n1.length_eq
    rw [idsL_length] at n1l
    generalize nodesL x0 141 0 0 (idsL x0.length) = NN at *
    have d := deep_is (o := o) (o' := o') nl (by omega) 600 0 (by omega) (by omega)
    exact ltm_fin c1 a1 (by rw [t1]; rfl) (by rw [r1]; rfl) (o := o) (N := NN.1) (o' := o') (by unfold ltm_c25082182 tma_v; rw [t1]; rfl) (by unfold rma_v; rw [r1]; rfl) (by omega) (by rw [t2, r2]) (by rw [← col_length, t2]; omega) ⟨d.1, d.2.1, d.2.2.1⟩
  · have t1 := tma_far (x0 := lpa_v x0) (by omega) (by omega)
    have r1 := rma_far (x0 := x0) (by omega)
    have d1 : (tdpAt 600).i.p [] [] 0 = true ∧ (tdpAt 600).i.v [] [] 0 = 0 := ⟨rfl, rfl⟩
    have d2 : (rdpAt 600).i.p [] [] 0 = true ∧ (rdpAt 600).i.v [] [] 0 = 0 := ⟨rfl, rfl⟩
    exact ltm_fin c1 a1 (by rw [t1]; rfl) (by rw [r1]; rfl) (o := []) (N := []) (o' := []) (by unfold ltm_c25082182 tma_v; rw [t1]; rfl) (by unfold rma_v; rw [r1]; rfl) (by simp) rfl (by simp) ⟨d1.1, d2.1, d1.2.trans d2.2.symm⟩
noncomputable def cfgTreeN : Cfg Try.prog := ⟨conC Try.prog 5 (.bool true) awake13E :: [tdpd_con, rdpd_con] ++ consTr2, fun _ _ _ => none, fun _ => ⟨false, true⟩, noFacts, fun _ => 0⟩
set_option maxRecDepth 100000 in
theorem ltm_none : CallOk Try.prog 3 [.sv (.one (.ext 0))] [(0, .grid [.int .i64, .int .i64, .int .i64, .int .i64, .int .i64, .int .i64, .int .i64, .int .i64, .int .i64, .int .i64, .int .i64, .int .i64] [])] 1 (ltm_O true) :=
  eng_closedA (C := cfgTreeN) noFacts_ok (n := 30) (N := 234) rfl (by kernel_rfl)
theorem ltm_call (x0 : List (List Ct)) : CallOk Try.prog 3 [.sv (.one (.ext 0))] [(0, .grid [.int .i64, .int .i64, .int .i64, .int .i64, .int .i64, .int .i64, .int .i64, .int .i64, .int .i64, .int .i64, .int .i64, .int .i64] x0)] 1 (ltm_O true) := by
  by_cases h0 : 0 < x0.length
  · exact ltm_tree (ltm_true h0)
  · have : x0 = [] := List.length_eq_zero_iff.1 (by omega)
    subst this
    exact ltm_none
end Go.Proofs.Ytpfaejbdbdjhhaa
