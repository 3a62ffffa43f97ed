/- Whether a curve may be. No condition. -/
import Derived.Test.YtonlllijdbjkaaaEngFix
import Derived.Test.YtonlllijdbjkaaaGradeLaw
set_option linter.unusedVariables false
set_option linter.unusedSimpArgs false
namespace Go.Proofs.Ytonlllijdbjkaaa
open Go.RowKit

noncomputable def cright_L0_S (x0 : List (List Ct)) (v : Int) : St := ⟨[.o (.ext 0), .d, .o (.val true (.bool false)), .d, .d, .o (.ext 0), .o (.q (↑x0.length : Int)), .o (.val false (.bool (decide ((↑x0.length : Int) < (1 : Int))))), .o (.val true (.bool false)), .o (.ext 0), .o (.q (↑x0.length : Int)), .o (.val false (.bool (decide ((↑x0.length : Int) > (16 : Int))))), .o (.val true (.bool false)), .o (.ext 0), .o (.q (↑x0.length : Int)), .o (.q v), .d, .d, .d, .d, .d, .d, .d, .d, .d, .d, .d, .d, .d, .d, .d, .d, .d, .d, .d, .d, .d, .d, .d, .d, .d, .d, .d, .d, .d, .d, .d, .d, .d, .d, .d, .d, .d, .d], [(0, .grid ([Sh.int IntKind.i64, Sh.int IntKind.i64]) x0)], 3, []⟩
noncomputable def cright_L0_T (x0 : List (List Ct)) : (Int) ⊕ (Unit) → Ex × St
  | .inl v => ((.exit 0), ⟨[.o (.ext 0), .d, .o (.val true (.bool false)), .d, .d, .o (.ext 0), .o (.q (↑x0.length : Int)), .o (.val false (.bool (decide ((↑x0.length : Int) < (1 : Int))))), .o (.val true (.bool false)), .o (.ext 0), .o (.q (↑x0.length : Int)), .o (.val false (.bool (decide ((↑x0.length : Int) > (16 : Int))))), .o (.val true (.bool false)), .o (.ext 0), .o (.q (↑x0.length : Int)), .o (.q v), .d, .d, .d, .d, .d, .d, .d, .d, .d, .d, .d, .d, .d, .d, .d, .d, .d, .d, .d, .d, .d, .d, .d, .d, .d, .d, .d, .d, .d, .d, .d, .d, .d, .d, .d, .d, .d, .d], [(0, .grid ([Sh.int IntKind.i64, Sh.int IntKind.i64]) x0)], 4, []⟩)
  | .inr v => (.ret, ⟨[.dead, .dead, .sv (.one (.val true (.bool false))), .dead, .dead, .dead, .dead, .dead, .dead, .dead, .dead, .dead, .dead, .dead, .dead, .dead, .dead, .dead, .dead, .dead, .dead, .dead, .dead, .dead, .dead, .dead, .dead, .dead, .dead, .dead, .dead, .dead, .dead, .dead, .dead, .dead, .dead, .dead, .dead, .dead, .dead, .dead, .dead, .dead, .dead, .dead, .dead, .dead, .dead, .dead, .dead, .dead, .dead, .dead], [(0, .grid ([Sh.int IntKind.i64, Sh.int IntKind.i64]) x0)], 13, []⟩)
noncomputable def cright_L0_rd (ex : Ex) (s : St) : Option ((Int) ⊕ ((Int) ⊕ (Unit))) × List (Nat × Option Nat) := match ex with
  | .normal => (some (.inl (rI (frC s 15 0))), [])
  | .exit i => bif Nat.beq i 0 then (some (.inr (.inl (rI (frC s 15 0)))), []) else (none, [])
  | .ret => (some (.inr (.inr ())), [])
noncomputable def cright_L0_step (x0 : List (List Ct)) : (Int) → Option ((Int) ⊕ ((Int) ⊕ (Unit))) := fun v => match v with
  | vi0 => bif (decide (vi0 < (↑x0.length : Int))) then (bif (decide ((0 : Int) ≤ vi0 ∧ vi0 < (↑x0.length : Int))) then bif (decide ((rd x0 vi0.toNat 0).int < (-16777216 : Int))) then (some (.inr (.inr ()))) else bif (decide ((rd x0 vi0.toNat 0).int > (16777216 : Int))) then (some (.inr (.inr ()))) else bif (decide ((rd x0 vi0.toNat 1).int < (-16777216 : Int))) then (some (.inr (.inr ()))) else bif (decide ((rd x0 vi0.toNat 1).int > (16777216 : Int))) then (some (.inr (.inr ()))) else bif (decide (vi0 > (0 : Int))) then (bif (decide ((0 : Int) ≤ IntKind.i64.wrap (vi0 - (1 : Int)) ∧ IntKind.i64.wrap (vi0 - (1 : Int)) < (↑x0.length : Int))) then bif (decide ((rd x0 (IntKind.i64.wrap (vi0 - (1 : Int))).toNat 0).int ≥ (rd x0 vi0.toNat 0).int)) then (some (.inr (.inr ()))) else some (.inl (IntKind.i64.wrap (vi0 + (1 : Int)))) else none) else some (.inl (IntKind.i64.wrap (vi0 + (1 : Int)))) else none) else some (.inr (.inl vi0))
noncomputable def cright_L0_c : Code := loopC Try.prog 9 0
set_option maxRecDepth 100000 in
theorem cright_L0_ok (x0 : List (List Ct)) : ∀ v, StepOk Try.prog 1 cright_L0_c (cright_L0_S x0) (cright_L0_T x0) v (cright_L0_step x0 v) := fun v => match v with | vi0 => eng_step (C := (⟨consFix, fun _ _ _ => none, fun f => false, noFacts, fun _ => 4⟩ : Cfg Try.prog)) noFacts_ok (n := 30) (f := 9) cright_L0_rd (fun r => by cases r <;> rfl) (by kernel_rfl)
noncomputable def cright_L0_p (x0 : List (List Ct)) : Bool := (iter (cright_L0_step x0) (x0.length + 1) 0).isSome
noncomputable def cright_L0_v (x0 : List (List Ct)) : (Int) ⊕ (Unit) := (iter (cright_L0_step x0) (x0.length + 1) 0).getD (.inl default)
set_option maxRecDepth 100000 in
noncomputable def cright_L0_lc (x0 : List (List Ct)) : LoopCon Try.prog := loopCon2 Try.prog 1 cright_L0_c [] (cright_L0_S x0) (cright_L0_T x0) 0 (cright_L0_step x0) (cright_L0_ok x0) (x0.length + 1) 0 (cright_L0_p x0) rfl (cright_L0_v x0) rfl
noncomputable def cright_O (v : Bool) : Out := ⟨.sv (.one (.val false (.bool v))), [], 13, []⟩
noncomputable def cright_rd (out : Out) : Option (Bool) := some (rB (rvC out.v 0 0))
noncomputable def cright_res (x0 : List (List Ct)) : Option (Bool) := bif (decide ((↑x0.length : Int) < (1 : Int))) then (some false) else bif (decide ((↑x0.length : Int) > (16 : Int))) then (some false) else bif (cright_L0_p x0) then bif (isL (cright_L0_v x0)) then (some true) else some false else none
set_option maxRecDepth 100000 in
theorem cright_tree {x0 : List (List Ct)} {v : Bool} (h : cright_res x0 = some v) : CallOk Try.prog 9 [.sv (.one (.ext 0))] [(0, .grid [.int .i64, .int .i64] x0)] 1 (cright_O v) :=
  eng_tree (C := (⟨consFix, fun f id nx => bif Nat.beq f 9 then (bif Nat.beq id 0 then some (cright_L0_lc x0) else none) else none, fun f => false, noFacts, fun _ => 4⟩ : Cfg Try.prog)) noFacts_ok (n := 30) (f := 9) cright_O cright_rd rfl (by kernel_rfl) h
noncomputable def cright_v (x0 : List (List Ct)) : Bool := rightS x0
theorem cright_spec (x0 : List (List Ct)) : cright_res x0 = some (cright_v x0) := by
  by_cases h1 : x0.length < 1
  · have hr : ¬ RightP x0 := fun h => by have := h.n0; omega
    have e1 : x0.length = 0 := by omega
    simp [cright_res, cright_v, rightS_false hr, e1]
  by_cases h2 : 16 < x0.length
  · have hr : ¬ RightP x0 := fun h => by have := h.n1; omega
    have e1 : ¬ (x0.length : Int) < 1 := by omega
    have e2 : (16 : Int) < x0.length := by omega
    have e3 : ¬ x0.length = 0 := by omega
    have e4 : 16 < x0.length := h2
    have e5 : x0 ≠ [] := fun h => by rw [h] at e3; exact e3 rfl
    simp [cright_res, cright_v, rightS_false hr, e1, e2, e3, e4, e5]
  have hstep : ∀ k, k < x0.length → (OkPin x0 k → cright_L0_step x0 ((k + 0 : Nat) : Int) = some (.inl ((k + 1 + 0 : Nat) : Int))) ∧ (¬ OkPin x0 k → cright_L0_step x0 ((k + 0 : Nat) : Int) = some (.inr (.inr ()))) := by
    intro k hk
    have w : IntKind.i64.wrap ((k : Int) + 1) = (k : Int) + 1 := wrap_in (by omega) (by omega)
    have w2 : IntKind.i64.wrap ((k : Int) - 1) = (k : Int) - 1 := wrap_in (by omega) (by omega)
    have w3 : ((k : Int) - 1).toNat = k - 1 := by omega
    have hk' : (k : Int) < x0.length := by omega
    refine ⟨fun h => ?_, fun h => ?_⟩
    · have q1 : ¬ (rd x0 k 0).int < -16777216 := by have := h.x0; omega
      have q2 : ¬ 16777216 < (rd x0 k 0).int := by have := h.x1; omega
      have q3 : ¬ (rd x0 k 1).int < -16777216 := by have := h.y0; omega
      have q4 : ¬ 16777216 < (rd x0 k 1).int := by have := h.y1; omega
      by_cases hz : 0 < k
      · have q5 := h.up hz
        have q6 : ¬ (rd x0 k 0).int ≤ (rd x0 (k - 1) 0).int := by omega
        have hz' : (0 : Int) < k := by omega
        have o1 : (0 : Int) ≤ (k : Int) - 1 ∧ (k : Int) - 1 < x0.length := by omega
        have o2 : (1 : Int) ≤ (k : Int) := by omega
        simp [cright_L0_step, hk, w, w2, w3, q1, q2, q3, q4, q6, hz, o1.1, o1.2, o2]
      · obtain rfl : k = 0 := by omega
        simp [cright_L0_step, hk, w, q1, q2, q3, q4]
        exact wrap_in (n := 1) (by omega) (by omega)
    · by_cases q1 : (rd x0 k 0).int < -16777216
      · simp [cright_L0_step, hk, q1]
      by_cases q2 : 16777216 < (rd x0 k 0).int
      · simp [cright_L0_step, hk, q1, q2]
      by_cases q3 : (rd x0 k 1).int < -16777216
      · simp [cright_L0_step, hk, q1, q2, q3]
      by_cases q4 : 16777216 < (rd x0 k 1).int
      · simp [cright_L0_step, hk, q1, q2, q3, q4]
      by_cases hz : 0 < k
      · by_cases q6 : (rd x0 k 0).int ≤ (rd x0 (k - 1) 0).int
        · have o1 : (0 : Int) ≤ (k : Int) - 1 ∧ (k : Int) - 1 < x0.length := by omega
          have o2 : (1 : Int) ≤ (k : Int) := by omega
          simp [cright_L0_step, hk, w2, w3, q1, q2, q3, q4, q6, hz, o1.1, o1.2, o2]
        · exact absurd ⟨by omega, by omega, by omega, by omega, fun _ => by omega⟩ h
      · exact absurd ⟨by omega, by omega, by omega, by omega, fun hh => absurd hh hz⟩ h
  have hend : cright_L0_step x0 ((x0.length + 0 : Nat) : Int) = some (.inr (.inl ((x0.length + 0 : Nat) : Int))) := by simp [cright_L0_step]
  obtain ⟨c1, c2⟩ := iter_check (P := OkPin x0) 0 hstep hend x0.length 0 (x0.length + 1) (by omega) (by omega)
  have z : ((0 + 0 : Nat) : Int) = 0 := rfl
  rw [z] at c1 c2
  have e1 : ¬ (x0.length : Int) < 1 := by omega
  have e2 : ¬ (16 : Int) < x0.length := by omega
  have e3 : ((x0.length : Int) == (0 : Int)) = false := by simp; intro h; rw [h] at h1; exact h1 (by decide)
  by_cases hP : ∀ k, k < x0.length → OkPin x0 k
  · have hr : RightP x0 := ⟨by omega, by omega, hP⟩
    have c := c1 fun j _ hj => hP j hj
    have p : cright_L0_p x0 = true := by unfold cright_L0_p; rw [c, Option.isSome_some]
    have v : isL (cright_L0_v x0) = true := by unfold cright_L0_v; rw [c, Option.getD_some]; rfl
    simp only [cright_res, cright_v, rightS_true hr, p, v, gt_iff_lt, e1, e2, e3, decide_false, cond_true, cond_false]
  · have hr : ¬ RightP x0 := fun h => hP h.pin
    have hex : ∃ j, 0 ≤ j ∧ j < x0.length ∧ ¬ OkPin x0 j := by
      apply Classical.byContradiction
      intro hc
      exact hP fun k hk => Classical.byContradiction fun hn => hc ⟨k, Nat.zero_le _, hk, hn⟩
    have c := c2 hex
    have p : cright_L0_p x0 = true := by unfold cright_L0_p; rw [c, Option.isSome_some]
    have v : isL (cright_L0_v x0) = false := by unfold cright_L0_v; rw [c, Option.getD_some]; rfl
    simp only [cright_res, cright_v, rightS_false hr, p, v, gt_iff_lt, e1, e2, e3, decide_false, cond_true, cond_false]
noncomputable def cright_m (args : List RV) (hp : Hp) : Option ((List (List Ct)) × List Nat) := match args with
  | [.sv (.one (.ext i0))] => (match gridAt hp i0 [.int .i64, .int .i64] with
    | some x0 => some (x0, [i0])
    | _ => none)
  | _ => none
noncomputable def cright_con : Con Try.prog := conX Try.prog 9 cright_m 1 (fun x => [.sv (.one (.ext 0))]) (fun x => [(0, .grid [.int .i64, .int .i64] x)]) (fun x => none) (fun x => cright_O (cright_v x))
  (by
    intro args hp x r h
    unfold cright_m at h
    split at h
    · split at h
      · rename_i g0
        cases h
        refine ⟨rfl, fun nx => ⟨rfl, ?_, ?_⟩⟩
        · intro i hi
          simp only [List.mem_cons, List.not_mem_nil, or_false] at hi
          rcases hi with rfl
          · exact ⟨_, List.mem_of_getElem? (i := 0) rfl, .inl (by simp [RV.ids, SV.ids, CV.ids])⟩
        · intro id o0 ho
          have := hlook_mem ho
          simp only [List.mem_cons, Prod.mk.injEq, List.not_mem_nil, or_false] at this
          rcases this with ⟨rfl, rfl⟩
          · exact ⟨_, gridAt_spec g0, rfl⟩
      · cases h
    · cases h)
  (fun x h => ⟨rfl, rfl, cright_tree (cright_spec x)⟩)

noncomputable def rright_L0_S (x0 : List (List Ct)) (v : Int) : St := ⟨[.o (.ext 0), .d, .o (.val true (.bool false)), .o (.q v), .o (.ext 0), .o (.q (↑x0.length : Int)), .o (.val false (.bool ((↑x0.length : Int) == (0 : Int)))), .o (.val true (.bool false)), .o (.ext 0), .o (.q (↑x0.length : Int)), .o (.val false (.bool (decide ((↑x0.length : Int) > (16 : Int))))), .o (.val true (.bool false)), .d, .d, .d, .d, .d, .d, .d, .d, .d, .d, .d, .d, .d, .d, .d, .d, .d, .d, .d, .d, .d, .d, .d, .d, .d, .d, .d, .d, .d, .d, .d, .d, .d, .d, .d, .d, .d, .d, .d, .d, .d, .d, .d, .d, .d, .d, .d, .d, .d, .d, .d, .d], [(0, .grid ([Sh.int IntKind.i64, Sh.int IntKind.i64]) x0)], 3, []⟩
noncomputable def rright_L0_T (x0 : List (List Ct)) : (Int) ⊕ (Unit) → Ex × St
  | .inl v => ((.exit 0), ⟨[.o (.ext 0), .d, .o (.val true (.bool false)), .o (.q v), .o (.ext 0), .o (.q (↑x0.length : Int)), .o (.val false (.bool ((↑x0.length : Int) == (0 : Int)))), .o (.val true (.bool false)), .o (.ext 0), .o (.q (↑x0.length : Int)), .o (.val false (.bool (decide ((↑x0.length : Int) > (16 : Int))))), .o (.val true (.bool false)), .d, .d, .d, .d, .d, .d, .d, .d, .d, .d, .d, .d, .d, .d, .d, .d, .d, .d, .d, .d, .d, .d, .d, .d, .d, .d, .d, .d, .d, .d, .d, .d, .d, .d, .d, .d, .d, .d, .d, .d, .d, .d, .d, .d, .d, .d, .d, .d, .d, .d, .d, .d], [(0, .grid ([Sh.int IntKind.i64, Sh.int IntKind.i64]) x0)], 4, []⟩)
  | .inr v => (.ret, ⟨[.dead, .dead, .sv (.one (.val true (.bool false))), .dead, .dead, .dead, .dead, .dead, .dead, .dead, .dead, .dead, .dead, .dead, .dead, .dead, .dead, .dead, .dead, .dead, .dead, .dead, .dead, .dead, .dead, .dead, .dead, .dead, .dead, .dead, .dead, .dead, .dead, .dead, .dead, .dead, .dead, .dead, .dead, .dead, .dead, .dead, .dead, .dead, .dead, .dead, .dead, .dead, .dead, .dead, .dead, .dead, .dead, .dead, .dead, .dead, .dead, .dead, .dead, .dead, .dead, .dead, .dead, .dead], [(0, .grid ([Sh.int IntKind.i64, Sh.int IntKind.i64]) x0)], 16, []⟩)
noncomputable def rright_L0_rd (ex : Ex) (s : St) : Option ((Int) ⊕ ((Int) ⊕ (Unit))) × List (Nat × Option Nat) := match ex with
  | .normal => (some (.inl (rI (frC s 3 0))), [])
  | .exit i => bif Nat.beq i 0 then (some (.inr (.inl (rI (frC s 3 0)))), []) else (none, [])
  | .ret => (some (.inr (.inr ())), [])
noncomputable def rright_L0_step (x0 : List (List Ct)) : (Int) → Option ((Int) ⊕ ((Int) ⊕ (Unit))) := fun v => match v with
  | vi0 => bif (decide (vi0 < (↑x0.length : Int))) then (bif (decide ((0 : Int) ≤ vi0 ∧ vi0 < (↑x0.length : Int))) then bif (decide ((rd x0 vi0.toNat 0).int < (-16777216 : Int))) then (some (.inr (.inr ()))) else bif (decide ((0 : Int) ≤ vi0 ∧ vi0 < (↑x0.length : Int))) then bif (decide ((rd x0 vi0.toNat 0).int > (16777216 : Int))) then (some (.inr (.inr ()))) else bif (decide ((0 : Int) ≤ vi0 ∧ vi0 < (↑x0.length : Int))) then bif (decide ((rd x0 vi0.toNat 1).int < (-16777216 : Int))) then (some (.inr (.inr ()))) else bif (decide ((0 : Int) ≤ vi0 ∧ vi0 < (↑x0.length : Int))) then bif (decide ((rd x0 vi0.toNat 1).int > (16777216 : Int))) then (some (.inr (.inr ()))) else bif (decide (vi0 > (0 : Int))) then (bif (decide ((0 : Int) ≤ vi0 ∧ vi0 < (↑x0.length : Int))) then bif (decide ((0 : Int) ≤ IntKind.i64.wrap (vi0 - (1 : Int)) ∧ IntKind.i64.wrap (vi0 - (1 : Int)) < (↑x0.length : Int))) then bif (decide ((rd x0 vi0.toNat 0).int ≤ (rd x0 (IntKind.i64.wrap (vi0 - (1 : Int))).toNat 0).int)) then (some (.inr (.inr ()))) else some (.inl (IntKind.i64.wrap (vi0 + (1 : Int)))) else none else none) else some (.inl (IntKind.i64.wrap (vi0 + (1 : Int)))) else none else none else none else none) else some (.inr (.inl vi0))
noncomputable def rright_L0_c : Code := loopC Try.prog 10 0
set_option maxRecDepth 100000 in
theorem rright_L0_ok (x0 : List (List Ct)) : ∀ v, StepOk Try.prog 1 rright_L0_c (rright_L0_S x0) (rright_L0_T x0) v (rright_L0_step x0 v) := fun v => match v with | vi0 => eng_step (C := (⟨consFix, fun _ _ _ => none, fun f => false, noFacts, fun _ => 4⟩ : Cfg Try.prog)) noFacts_ok (n := 30) (f := 10) rright_L0_rd (fun r => by cases r <;> rfl) (by kernel_rfl)
noncomputable def rright_L0_p (x0 : List (List Ct)) : Bool := (iter (rright_L0_step x0) (x0.length + 1) 0).isSome
noncomputable def rright_L0_v (x0 : List (List Ct)) : (Int) ⊕ (Unit) := (iter (rright_L0_step x0) (x0.length + 1) 0).getD (.inl default)
set_option maxRecDepth 100000 in
noncomputable def rright_L0_lc (x0 : List (List Ct)) : LoopCon Try.prog := loopCon2 Try.prog 1 rright_L0_c [] (rright_L0_S x0) (rright_L0_T x0) 0 (rright_L0_step x0) (rright_L0_ok x0) (x0.length + 1) 0 (rright_L0_p x0) rfl (rright_L0_v x0) rfl
noncomputable def rright_O (v : Bool) : Out := ⟨.sv (.one (.val false (.bool v))), [], 16, []⟩
noncomputable def rright_rd (out : Out) : Option (Bool) := some (rB (rvC out.v 0 0))
noncomputable def rright_res (x0 : List (List Ct)) : Option (Bool) := bif ((↑x0.length : Int) == (0 : Int)) then (some false) else bif (decide ((↑x0.length : Int) > (16 : Int))) then (some false) else bif (rright_L0_p x0) then bif (isL (rright_L0_v x0)) then (some true) else some false else none
set_option maxRecDepth 100000 in
theorem rright_tree {x0 : List (List Ct)} {v : Bool} (h : rright_res x0 = some v) : CallOk Try.prog 10 [.sv (.one (.ext 0))] [(0, .grid [.int .i64, .int .i64] x0)] 1 (rright_O v) :=
  eng_tree (C := (⟨consFix, fun f id nx => bif Nat.beq f 10 then (bif Nat.beq id 0 then some (rright_L0_lc x0) else none) else none, fun f => false, noFacts, fun _ => 4⟩ : Cfg Try.prog)) noFacts_ok (n := 30) (f := 10) rright_O rright_rd rfl (by kernel_rfl) h
noncomputable def rright_v (x0 : List (List Ct)) : Bool := rightS x0
theorem rright_spec (x0 : List (List Ct)) : rright_res x0 = some (rright_v x0) := by
  by_cases h1 : x0.length < 1
  · have hr : ¬ RightP x0 := fun h => by have := h.n0; omega
    have e1 : x0.length = 0 := by omega
    simp [rright_res, rright_v, rightS_false hr, e1]
  by_cases h2 : 16 < x0.length
  · have hr : ¬ RightP x0 := fun h => by have := h.n1; omega
    have e1 : ¬ (x0.length : Int) < 1 := by omega
    have e2 : (16 : Int) < x0.length := by omega
    have e3 : ¬ x0.length = 0 := by omega
    have e4 : 16 < x0.length := h2
    have e5 : x0 ≠ [] := fun h => by rw [h] at e3; exact e3 rfl
    simp [rright_res, rright_v, rightS_false hr, e1, e2, e3, e4, e5]
  have hstep : ∀ k, k < x0.length → (OkPin x0 k → rright_L0_step x0 ((k + 0 : Nat) : Int) = some (.inl ((k + 1 + 0 : Nat) : Int))) ∧ (¬ OkPin x0 k → rright_L0_step x0 ((k + 0 : Nat) : Int) = some (.inr (.inr ()))) := by
    intro k hk
    have w : IntKind.i64.wrap ((k : Int) + 1) = (k : Int) + 1 := wrap_in (by omega) (by omega)
    have w2 : IntKind.i64.wrap ((k : Int) - 1) = (k : Int) - 1 := wrap_in (by omega) (by omega)
    have w3 : ((k : Int) - 1).toNat = k - 1 := by omega
    have hk' : (k : Int) < x0.length := by omega
    refine ⟨fun h => ?_, fun h => ?_⟩
    · have q1 : ¬ (rd x0 k 0).int < -16777216 := by have := h.x0; omega
      have q2 : ¬ 16777216 < (rd x0 k 0).int := by have := h.x1; omega
      have q3 : ¬ (rd x0 k 1).int < -16777216 := by have := h.y0; omega
      have q4 : ¬ 16777216 < (rd x0 k 1).int := by have := h.y1; omega
      by_cases hz : 0 < k
      · have q5 := h.up hz
        have q6 : ¬ (rd x0 k 0).int ≤ (rd x0 (k - 1) 0).int := by omega
        have hz' : (0 : Int) < k := by omega
        have o1 : (0 : Int) ≤ (k : Int) - 1 ∧ (k : Int) - 1 < x0.length := by omega
        have o2 : (1 : Int) ≤ (k : Int) := by omega
        simp [rright_L0_step, hk, w, w2, w3, q1, q2, q3, q4, q6, hz, o1.1, o1.2, o2]
      · obtain rfl : k = 0 := by omega
        simp [rright_L0_step, hk, w, q1, q2, q3, q4]
        exact wrap_in (n := 1) (by omega) (by omega)
    · by_cases q1 : (rd x0 k 0).int < -16777216
      · simp [rright_L0_step, hk, q1]
      by_cases q2 : 16777216 < (rd x0 k 0).int
      · simp [rright_L0_step, hk, q1, q2]
      by_cases q3 : (rd x0 k 1).int < -16777216
      · simp [rright_L0_step, hk, q1, q2, q3]
      by_cases q4 : 16777216 < (rd x0 k 1).int
      · simp [rright_L0_step, hk, q1, q2, q3, q4]
      by_cases hz : 0 < k
      · by_cases q6 : (rd x0 k 0).int ≤ (rd x0 (k - 1) 0).int
        · have o1 : (0 : Int) ≤ (k : Int) - 1 ∧ (k : Int) - 1 < x0.length := by omega
          have o2 : (1 : Int) ≤ (k : Int) := by omega
          simp [rright_L0_step, hk, w2, w3, q1, q2, q3, q4, q6, hz, o1.1, o1.2, o2]
        · exact absurd ⟨by omega, by omega, by omega, by omega, fun _ => by omega⟩ h
      · exact absurd ⟨by omega, by omega, by omega, by omega, fun hh => absurd hh hz⟩ h
  have hend : rright_L0_step x0 ((x0.length + 0 : Nat) : Int) = some (.inr (.inl ((x0.length + 0 : Nat) : Int))) := by simp [rright_L0_step]
  obtain ⟨c1, c2⟩ := iter_check (P := OkPin x0) 0 hstep hend x0.length 0 (x0.length + 1) (by omega) (by omega)
  have z : ((0 + 0 : Nat) : Int) = 0 := rfl
  rw [z] at c1 c2
  have e1 : ¬ (x0.length : Int) < 1 := by omega
  have e2 : ¬ (16 : Int) < x0.length := by omega
  have e3 : ((x0.length : Int) == (0 : Int)) = false := by simp; intro h; rw [h] at h1; exact h1 (by decide)
  by_cases hP : ∀ k, k < x0.length → OkPin x0 k
  · have hr : RightP x0 := ⟨by omega, by omega, hP⟩
    have c := c1 fun j _ hj => hP j hj
    have p : rright_L0_p x0 = true := by unfold rright_L0_p; rw [c, Option.isSome_some]
    have v : isL (rright_L0_v x0) = true := by unfold rright_L0_v; rw [c, Option.getD_some]; rfl
    simp only [rright_res, rright_v, rightS_true hr, p, v, gt_iff_lt, e1, e2, e3, decide_false, cond_true, cond_false]
  · have hr : ¬ RightP x0 := fun h => hP h.pin
    have hex : ∃ j, 0 ≤ j ∧ j < x0.length ∧ ¬ OkPin x0 j := by
      apply Classical.byContradiction
      intro hc
      exact hP fun k hk => Classical.byContradiction fun hn => hc ⟨k, Nat.zero_le _, hk, hn⟩
    have c := c2 hex
    have p : rright_L0_p x0 = true := by unfold rright_L0_p; rw [c, Option.isSome_some]
    have v : isL (rright_L0_v x0) = false := by unfold rright_L0_v; rw [c, Option.getD_some]; rfl
    simp only [rright_res, rright_v, rightS_false hr, p, v, gt_iff_lt, e1, e2, e3, decide_false, cond_true, cond_false]
noncomputable def rright_m (args : List RV) (hp : Hp) : Option ((List (List Ct)) × List Nat) := match args with
  | [.sv (.one (.ext i0))] => (match gridAt hp i0 [.int .i64, .int .i64] with
    | some x0 => some (x0, [i0])
    | _ => none)
  | _ => none
noncomputable def rright_con : Con Try.prog := conX Try.prog 10 rright_m 1 (fun x => [.sv (.one (.ext 0))]) (fun x => [(0, .grid [.int .i64, .int .i64] x)]) (fun x => none) (fun x => rright_O (rright_v x))
  (by
    intro args hp x r h
    unfold rright_m at h
    split at h
    · split at h
      · rename_i g0
        cases h
        refine ⟨rfl, fun nx => ⟨rfl, ?_, ?_⟩⟩
        · intro i hi
          simp only [List.mem_cons, List.not_mem_nil, or_false] at hi
          rcases hi with rfl
          · exact ⟨_, List.mem_of_getElem? (i := 0) rfl, .inl (by simp [RV.ids, SV.ids, CV.ids])⟩
        · intro id o0 ho
          have := hlook_mem ho
          simp only [List.mem_cons, Prod.mk.injEq, List.not_mem_nil, or_false] at this
          rcases this with ⟨rfl, rfl⟩
          · exact ⟨_, gridAt_spec g0, rfl⟩
      · cases h
    · cases h)
  (fun x h => ⟨rfl, rfl, rright_tree (rright_spec x)⟩)
noncomputable def consGrade1 : List (Con Try.prog) := [cright_con.freeze, rright_con.freeze] ++ consFix
end Go.Proofs.Ytonlllijdbjkaaa
