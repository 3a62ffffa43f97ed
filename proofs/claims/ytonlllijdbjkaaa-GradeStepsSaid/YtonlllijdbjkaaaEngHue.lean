/- What the functions of layer 5 on lights compute. No condition. -/
import Derived.Test.YtonlllijdbjkaaaEngVec
import Derived.Test.YtonlllijdbjkaaaLoopA
import Derived.Test.YtonlllijdbjkaaaHueLaw
set_option linter.unusedVariables false
set_option linter.unusedSimpArgs false
namespace Go.Proofs.Ytonlllijdbjkaaa
open Go.RowKit

noncomputable def hto_O (v : Int × Int × Int) : Out := ⟨.sv (.agg [.val false (.int .i64 v.1), .val false (.int .i64 v.2.1), .val false (.int .i64 v.2.2)]), [], 2, []⟩
noncomputable def hto_rd (out : Out) : Option (Int × Int × Int) := some (rI (rvC out.v 0 0), rI (rvC out.v 0 1), rI (rvC out.v 0 2))
noncomputable def hto_res (x0_0 x0_1 x0_2 : Int) : Option (Int × Int × Int) := some (x0_0, x0_1, x0_2)
set_option maxRecDepth 100000 in
theorem hto_tree {x0_0 x0_1 x0_2 : Int} {v : Int × Int × Int} (h : hto_res x0_0 x0_1 x0_2 = some v) : CallOk Try.prog 51 [.sv (.agg [.val false (.int .i64 x0_0), .val false (.int .i64 x0_1), .val false (.int .i64 x0_2)])] [] 0 (hto_O v) :=
  eng_tree (C := (⟨consVec, fun _ _ _ => none, fun f => false, noFacts, fun _ => 4⟩ : Cfg Try.prog)) noFacts_ok (n := 30) (f := 51) hto_O hto_rd rfl (by kernel_rfl) h
noncomputable def hto_v (x0_0 x0_1 x0_2 : Int) : Int × Int × Int := (x0_0, x0_1, x0_2)
theorem hto_spec (x0_0 x0_1 x0_2 : Int) : hto_res x0_0 x0_1 x0_2 = some (hto_v x0_0 x0_1 x0_2) := by simp only [hto_res, hto_v, cond_some]
noncomputable def hto_m (args : List RV) (hp : Hp) : Option ((Int × Int × Int) × List Nat) := match args with
  | [.sv (.agg [.val _ (.int .i64 x0_0), .val _ (.int .i64 x0_1), .val _ (.int .i64 x0_2)])] => some ((x0_0, x0_1, x0_2), [])
  | _ => none
noncomputable def hto_con : Con Try.prog := conX Try.prog 51 hto_m 0 (fun x => [.sv (.agg [.val false (.int .i64 x.1), .val false (.int .i64 x.2.1), .val false (.int .i64 x.2.2)])]) (fun x => []) (fun x => none) (fun x => hto_O (hto_v x.1 x.2.1 x.2.2))
  (by
    intro args hp x r h
    unfold hto_m at h
    split at h
    · cases h
      exact ⟨rfl, fun nx => ⟨rfl, (fun i hi => by cases hi), fun id o0 ho => by simp [hlook] at ho⟩⟩
    · cases h)
  (fun x h => ⟨rfl, rfl, hto_tree (hto_spec x.1 x.2.1 x.2.2)⟩)

noncomputable def hfrom_O (v : Int × Int × Int) : Out := ⟨.sv (.agg [.val false (.int .i64 v.1), .val false (.int .i64 v.2.1), .val false (.int .i64 v.2.2)]), [], 2, []⟩
noncomputable def hfrom_rd (out : Out) : Option (Int × Int × Int) := some (rI (rvC out.v 0 0), rI (rvC out.v 0 1), rI (rvC out.v 0 2))
noncomputable def hfrom_res (x0_0 x0_1 x0_2 : Int) : Option (Int × Int × Int) := some (x0_0, x0_1, x0_2)
set_option maxRecDepth 100000 in
theorem hfrom_tree {x0_0 x0_1 x0_2 : Int} {v : Int × Int × Int} (h : hfrom_res x0_0 x0_1 x0_2 = some v) : CallOk Try.prog 56 [.sv (.agg [.val false (.int .i64 x0_0), .val false (.int .i64 x0_1), .val false (.int .i64 x0_2)])] [] 0 (hfrom_O v) :=
  eng_tree (C := (⟨consVec, fun _ _ _ => none, fun f => false, noFacts, fun _ => 4⟩ : Cfg Try.prog)) noFacts_ok (n := 30) (f := 56) hfrom_O hfrom_rd rfl (by kernel_rfl) h
noncomputable def hfrom_v (x0_0 x0_1 x0_2 : Int) : Int × Int × Int := (x0_0, x0_1, x0_2)
theorem hfrom_spec (x0_0 x0_1 x0_2 : Int) : hfrom_res x0_0 x0_1 x0_2 = some (hfrom_v x0_0 x0_1 x0_2) := by simp only [hfrom_res, hfrom_v, cond_some]
noncomputable def hfrom_m (args : List RV) (hp : Hp) : Option ((Int × Int × Int) × List Nat) := match args with
  | [.sv (.agg [.val _ (.int .i64 x0_0), .val _ (.int .i64 x0_1), .val _ (.int .i64 x0_2)])] => some ((x0_0, x0_1, x0_2), [])
  | _ => none
noncomputable def hfrom_con : Con Try.prog := conX Try.prog 56 hfrom_m 0 (fun x => [.sv (.agg [.val false (.int .i64 x.1), .val false (.int .i64 x.2.1), .val false (.int .i64 x.2.2)])]) (fun x => []) (fun x => none) (fun x => hfrom_O (hfrom_v x.1 x.2.1 x.2.2))
  (by
    intro args hp x r h
    unfold hfrom_m at h
    split at h
    · cases h
      exact ⟨rfl, fun nx => ⟨rfl, (fun i hi => by cases hi), fun id o0 ho => by simp [hlook] at ho⟩⟩
    · cases h)
  (fun x h => ⟨rfl, rfl, hfrom_tree (hfrom_spec x.1 x.2.1 x.2.2)⟩)

noncomputable def hgray_O (v : Int × Int × Int) : Out := ⟨.sv (.agg [.val false (.int .i64 v.1), .val false (.int .i64 v.2.1), .val false (.int .i64 v.2.2)]), [], 1, []⟩
noncomputable def hgray_rd (out : Out) : Option (Int × Int × Int) := some (rI (rvC out.v 0 0), rI (rvC out.v 0 1), rI (rvC out.v 0 2))
noncomputable def hgray_res (x0 : Int) : Option (Int × Int × Int) := some (x0, x0, x0)
set_option maxRecDepth 100000 in
theorem hgray_tree {x0 : Int} {v : Int × Int × Int} (h : hgray_res x0 = some v) : CallOk Try.prog 71 [.sv (.one (.val false (.int .i64 x0)))] [] 0 (hgray_O v) :=
  eng_tree (C := (⟨consVec, fun _ _ _ => none, fun f => false, noFacts, fun _ => 4⟩ : Cfg Try.prog)) noFacts_ok (n := 30) (f := 71) hgray_O hgray_rd rfl (by kernel_rfl) h
noncomputable def hgray_v (x0 : Int) : Int × Int × Int := (x0, x0, x0)
theorem hgray_spec (x0 : Int) : hgray_res x0 = some (hgray_v x0) := by simp only [hgray_res, hgray_v, cond_some]
noncomputable def hgray_m (args : List RV) (hp : Hp) : Option ((Int) × List Nat) := match args with
  | [.sv (.one (.val _ (.int .i64 x0)))] => some (x0, [])
  | _ => none
noncomputable def hgray_con : Con Try.prog := conX Try.prog 71 hgray_m 0 (fun x => [.sv (.one (.val false (.int .i64 x)))]) (fun x => []) (fun x => none) (fun x => hgray_O (hgray_v x))
  (by
    intro args hp x r h
    unfold hgray_m at h
    split at h
    · cases h
      exact ⟨rfl, fun nx => ⟨rfl, (fun i hi => by cases hi), fun id o0 ho => by simp [hlook] at ho⟩⟩
    · cases h)
  (fun x h => ⟨rfl, rfl, hgray_tree (hgray_spec x)⟩)

noncomputable def hadd_O (v : Int × Int × Int) : Out := ⟨.sv (.agg [.val false (.int .i64 v.1), .val false (.int .i64 v.2.1), .val false (.int .i64 v.2.2)]), [], 6, []⟩
noncomputable def hadd_rd (out : Out) : Option (Int × Int × Int) := some (rI (rvC out.v 0 0), rI (rvC out.v 0 1), rI (rvC out.v 0 2))
noncomputable def hadd_res (x0_0 x0_1 x0_2 x1_0 x1_1 x1_2 : Int) : Option (Int × Int × Int) := some (addS x0_0 x1_0, addS x0_1 x1_1, addS x0_2 x1_2)
set_option maxRecDepth 100000 in
theorem hadd_tree {x0_0 x0_1 x0_2 x1_0 x1_1 x1_2 : Int} {v : Int × Int × Int} (h : hadd_res x0_0 x0_1 x0_2 x1_0 x1_1 x1_2 = some v) : CallOk Try.prog 74 [.sv (.agg [.val false (.int .i64 x0_0), .val false (.int .i64 x0_1), .val false (.int .i64 x0_2)]), .sv (.agg [.val false (.int .i64 x1_0), .val false (.int .i64 x1_1), .val false (.int .i64 x1_2)])] [] 0 (hadd_O v) :=
  eng_tree (C := (⟨consVec, fun _ _ _ => none, fun f => false, noFacts, fun _ => 4⟩ : Cfg Try.prog)) noFacts_ok (n := 30) (f := 74) hadd_O hadd_rd rfl (by kernel_rfl) h
noncomputable def hadd_v (x0_0 x0_1 x0_2 x1_0 x1_1 x1_2 : Int) : Int × Int × Int := (addS x0_0 x1_0, addS x0_1 x1_1, addS x0_2 x1_2)
theorem hadd_spec (x0_0 x0_1 x0_2 x1_0 x1_1 x1_2 : Int) : hadd_res x0_0 x0_1 x0_2 x1_0 x1_1 x1_2 = some (hadd_v x0_0 x0_1 x0_2 x1_0 x1_1 x1_2) := by simp only [hadd_res, hadd_v, cond_some]
noncomputable def hadd_m (args : List RV) (hp : Hp) : Option ((Int × Int × Int × Int × Int × Int) × List Nat) := match args with
  | [.sv (.agg [.val _ (.int .i64 x0_0), .val _ (.int .i64 x0_1), .val _ (.int .i64 x0_2)]), .sv (.agg [.val _ (.int .i64 x1_0), .val _ (.int .i64 x1_1), .val _ (.int .i64 x1_2)])] => some ((x0_0, x0_1, x0_2, x1_0, x1_1, x1_2), [])
  | _ => none
noncomputable def hadd_con : Con Try.prog := conX Try.prog 74 hadd_m 0 (fun x => [.sv (.agg [.val false (.int .i64 x.1), .val false (.int .i64 x.2.1), .val false (.int .i64 x.2.2.1)]), .sv (.agg [.val false (.int .i64 x.2.2.2.1), .val false (.int .i64 x.2.2.2.2.1), .val false (.int .i64 x.2.2.2.2.2)])]) (fun x => []) (fun x => none) (fun x => hadd_O (hadd_v x.1 x.2.1 x.2.2.1 x.2.2.2.1 x.2.2.2.2.1 x.2.2.2.2.2))
  (by
    intro args hp x r h
    unfold hadd_m at h
    split at h
    · cases h
      exact ⟨rfl, fun nx => ⟨rfl, (fun i hi => by cases hi), fun id o0 ho => by simp [hlook] at ho⟩⟩
    · cases h)
  (fun x h => ⟨rfl, rfl, hadd_tree (hadd_spec x.1 x.2.1 x.2.2.1 x.2.2.2.1 x.2.2.2.2.1 x.2.2.2.2.2)⟩)

noncomputable def hsub_O (v : Int × Int × Int) : Out := ⟨.sv (.agg [.val false (.int .i64 v.1), .val false (.int .i64 v.2.1), .val false (.int .i64 v.2.2)]), [], 6, []⟩
noncomputable def hsub_rd (out : Out) : Option (Int × Int × Int) := some (rI (rvC out.v 0 0), rI (rvC out.v 0 1), rI (rvC out.v 0 2))
noncomputable def hsub_res (x0_0 x0_1 x0_2 x1_0 x1_1 x1_2 : Int) : Option (Int × Int × Int) := some (subS x0_0 x1_0, subS x0_1 x1_1, subS x0_2 x1_2)
set_option maxRecDepth 100000 in
theorem hsub_tree {x0_0 x0_1 x0_2 x1_0 x1_1 x1_2 : Int} {v : Int × Int × Int} (h : hsub_res x0_0 x0_1 x0_2 x1_0 x1_1 x1_2 = some v) : CallOk Try.prog 75 [.sv (.agg [.val false (.int .i64 x0_0), .val false (.int .i64 x0_1), .val false (.int .i64 x0_2)]), .sv (.agg [.val false (.int .i64 x1_0), .val false (.int .i64 x1_1), .val false (.int .i64 x1_2)])] [] 0 (hsub_O v) :=
  eng_tree (C := (⟨consVec, fun _ _ _ => none, fun f => false, noFacts, fun _ => 4⟩ : Cfg Try.prog)) noFacts_ok (n := 30) (f := 75) hsub_O hsub_rd rfl (by kernel_rfl) h
noncomputable def hsub_v (x0_0 x0_1 x0_2 x1_0 x1_1 x1_2 : Int) : Int × Int × Int := (subS x0_0 x1_0, subS x0_1 x1_1, subS x0_2 x1_2)
theorem hsub_spec (x0_0 x0_1 x0_2 x1_0 x1_1 x1_2 : Int) : hsub_res x0_0 x0_1 x0_2 x1_0 x1_1 x1_2 = some (hsub_v x0_0 x0_1 x0_2 x1_0 x1_1 x1_2) := by simp only [hsub_res, hsub_v, cond_some]
noncomputable def hsub_m (args : List RV) (hp : Hp) : Option ((Int × Int × Int × Int × Int × Int) × List Nat) := match args with
  | [.sv (.agg [.val _ (.int .i64 x0_0), .val _ (.int .i64 x0_1), .val _ (.int .i64 x0_2)]), .sv (.agg [.val _ (.int .i64 x1_0), .val _ (.int .i64 x1_1), .val _ (.int .i64 x1_2)])] => some ((x0_0, x0_1, x0_2, x1_0, x1_1, x1_2), [])
  | _ => none
noncomputable def hsub_con : Con Try.prog := conX Try.prog 75 hsub_m 0 (fun x => [.sv (.agg [.val false (.int .i64 x.1), .val false (.int .i64 x.2.1), .val false (.int .i64 x.2.2.1)]), .sv (.agg [.val false (.int .i64 x.2.2.2.1), .val false (.int .i64 x.2.2.2.2.1), .val false (.int .i64 x.2.2.2.2.2)])]) (fun x => []) (fun x => none) (fun x => hsub_O (hsub_v x.1 x.2.1 x.2.2.1 x.2.2.2.1 x.2.2.2.2.1 x.2.2.2.2.2))
  (by
    intro args hp x r h
    unfold hsub_m at h
    split at h
    · cases h
      exact ⟨rfl, fun nx => ⟨rfl, (fun i hi => by cases hi), fun id o0 ho => by simp [hlook] at ho⟩⟩
    · cases h)
  (fun x h => ⟨rfl, rfl, hsub_tree (hsub_spec x.1 x.2.1 x.2.2.1 x.2.2.2.1 x.2.2.2.2.1 x.2.2.2.2.2)⟩)

noncomputable def hmul_O (v : Int × Int × Int) : Out := ⟨.sv (.agg [.val false (.int .i64 v.1), .val false (.int .i64 v.2.1), .val false (.int .i64 v.2.2)]), [], 6, []⟩
noncomputable def hmul_rd (out : Out) : Option (Int × Int × Int) := some (rI (rvC out.v 0 0), rI (rvC out.v 0 1), rI (rvC out.v 0 2))
noncomputable def hmul_res (x0_0 x0_1 x0_2 x1_0 x1_1 x1_2 : Int) : Option (Int × Int × Int) := some (mulS x0_0 x1_0, mulS x0_1 x1_1, mulS x0_2 x1_2)
set_option maxRecDepth 100000 in
theorem hmul_tree {x0_0 x0_1 x0_2 x1_0 x1_1 x1_2 : Int} {v : Int × Int × Int} (h : hmul_res x0_0 x0_1 x0_2 x1_0 x1_1 x1_2 = some v) : CallOk Try.prog 68 [.sv (.agg [.val false (.int .i64 x0_0), .val false (.int .i64 x0_1), .val false (.int .i64 x0_2)]), .sv (.agg [.val false (.int .i64 x1_0), .val false (.int .i64 x1_1), .val false (.int .i64 x1_2)])] [] 0 (hmul_O v) :=
  eng_tree (C := (⟨consVec, fun _ _ _ => none, fun f => false, noFacts, fun _ => 4⟩ : Cfg Try.prog)) noFacts_ok (n := 30) (f := 68) hmul_O hmul_rd rfl (by kernel_rfl) h
noncomputable def hmul_v (x0_0 x0_1 x0_2 x1_0 x1_1 x1_2 : Int) : Int × Int × Int := (mulS x0_0 x1_0, mulS x0_1 x1_1, mulS x0_2 x1_2)
theorem hmul_spec (x0_0 x0_1 x0_2 x1_0 x1_1 x1_2 : Int) : hmul_res x0_0 x0_1 x0_2 x1_0 x1_1 x1_2 = some (hmul_v x0_0 x0_1 x0_2 x1_0 x1_1 x1_2) := by simp only [hmul_res, hmul_v, cond_some]
noncomputable def hmul_m (args : List RV) (hp : Hp) : Option ((Int × Int × Int × Int × Int × Int) × List Nat) := match args with
  | [.sv (.agg [.val _ (.int .i64 x0_0), .val _ (.int .i64 x0_1), .val _ (.int .i64 x0_2)]), .sv (.agg [.val _ (.int .i64 x1_0), .val _ (.int .i64 x1_1), .val _ (.int .i64 x1_2)])] => some ((x0_0, x0_1, x0_2, x1_0, x1_1, x1_2), [])
  | _ => none
noncomputable def hmul_con : Con Try.prog := conX Try.prog 68 hmul_m 0 (fun x => [.sv (.agg [.val false (.int .i64 x.1), .val false (.int .i64 x.2.1), .val false (.int .i64 x.2.2.1)]), .sv (.agg [.val false (.int .i64 x.2.2.2.1), .val false (.int .i64 x.2.2.2.2.1), .val false (.int .i64 x.2.2.2.2.2)])]) (fun x => []) (fun x => none) (fun x => hmul_O (hmul_v x.1 x.2.1 x.2.2.1 x.2.2.2.1 x.2.2.2.2.1 x.2.2.2.2.2))
  (by
    intro args hp x r h
    unfold hmul_m at h
    split at h
    · cases h
      exact ⟨rfl, fun nx => ⟨rfl, (fun i hi => by cases hi), fun id o0 ho => by simp [hlook] at ho⟩⟩
    · cases h)
  (fun x h => ⟨rfl, rfl, hmul_tree (hmul_spec x.1 x.2.1 x.2.2.1 x.2.2.2.1 x.2.2.2.2.1 x.2.2.2.2.2)⟩)

noncomputable def hscale_O (v : Int × Int × Int) : Out := ⟨.sv (.agg [.val false (.int .i64 v.1), .val false (.int .i64 v.2.1), .val false (.int .i64 v.2.2)]), [], 9, []⟩
noncomputable def hscale_rd (out : Out) : Option (Int × Int × Int) := some (rI (rvC out.v 0 0), rI (rvC out.v 0 1), rI (rvC out.v 0 2))
noncomputable def hscale_res (x0_0 x0_1 x0_2 x1 : Int) : Option (Int × Int × Int) := some (mulS x0_0 x1, mulS x0_1 x1, mulS x0_2 x1)
set_option maxRecDepth 100000 in
theorem hscale_tree {x0_0 x0_1 x0_2 x1 : Int} {v : Int × Int × Int} (h : hscale_res x0_0 x0_1 x0_2 x1 = some v) : CallOk Try.prog 66 [.sv (.agg [.val false (.int .i64 x0_0), .val false (.int .i64 x0_1), .val false (.int .i64 x0_2)]), .sv (.one (.val false (.int .i64 x1)))] [] 0 (hscale_O v) :=
  eng_tree (C := (⟨consVec, fun _ _ _ => none, fun f => false, noFacts, fun _ => 4⟩ : Cfg Try.prog)) noFacts_ok (n := 30) (f := 66) hscale_O hscale_rd rfl (by kernel_rfl) h
noncomputable def hscale_v (x0_0 x0_1 x0_2 x1 : Int) : Int × Int × Int := (mulS x0_0 x1, mulS x0_1 x1, mulS x0_2 x1)
theorem hscale_spec (x0_0 x0_1 x0_2 x1 : Int) : hscale_res x0_0 x0_1 x0_2 x1 = some (hscale_v x0_0 x0_1 x0_2 x1) := by simp only [hscale_res, hscale_v, cond_some]
noncomputable def hscale_m (args : List RV) (hp : Hp) : Option ((Int × Int × Int × Int) × List Nat) := match args with
  | [.sv (.agg [.val _ (.int .i64 x0_0), .val _ (.int .i64 x0_1), .val _ (.int .i64 x0_2)]), .sv (.one (.val _ (.int .i64 x1)))] => some ((x0_0, x0_1, x0_2, x1), [])
  | _ => none
noncomputable def hscale_con : Con Try.prog := conX Try.prog 66 hscale_m 0 (fun x => [.sv (.agg [.val false (.int .i64 x.1), .val false (.int .i64 x.2.1), .val false (.int .i64 x.2.2.1)]), .sv (.one (.val false (.int .i64 x.2.2.2)))]) (fun x => []) (fun x => none) (fun x => hscale_O (hscale_v x.1 x.2.1 x.2.2.1 x.2.2.2))
  (by
    intro args hp x r h
    unfold hscale_m at h
    split at h
    · cases h
      exact ⟨rfl, fun nx => ⟨rfl, (fun i hi => by cases hi), fun id o0 ho => by simp [hlook] at ho⟩⟩
    · cases h)
  (fun x h => ⟨rfl, rfl, hscale_tree (hscale_spec x.1 x.2.1 x.2.2.1 x.2.2.2)⟩)

noncomputable def hmix_O (v : Int × Int × Int) : Out := ⟨.sv (.agg [.val false (.int .i64 v.1), .val false (.int .i64 v.2.1), .val false (.int .i64 v.2.2)]), [], 7, []⟩
noncomputable def hmix_rd (out : Out) : Option (Int × Int × Int) := some (rI (rvC out.v 0 0), rI (rvC out.v 0 1), rI (rvC out.v 0 2))
noncomputable def hmix_res (x0_0 x0_1 x0_2 x1_0 x1_1 x1_2 x2 : Int) : Option (Int × Int × Int) := some (lerpS x0_0 x1_0 x2, lerpS x0_1 x1_1 x2, lerpS x0_2 x1_2 x2)
set_option maxRecDepth 100000 in
theorem hmix_tree {x0_0 x0_1 x0_2 x1_0 x1_1 x1_2 x2 : Int} {v : Int × Int × Int} (h : hmix_res x0_0 x0_1 x0_2 x1_0 x1_1 x1_2 x2 = some v) : CallOk Try.prog 70 [.sv (.agg [.val false (.int .i64 x0_0), .val false (.int .i64 x0_1), .val false (.int .i64 x0_2)]), .sv (.agg [.val false (.int .i64 x1_0), .val false (.int .i64 x1_1), .val false (.int .i64 x1_2)]), .sv (.one (.val false (.int .i64 x2)))] [] 0 (hmix_O v) :=
  eng_tree (C := (⟨consVec, fun _ _ _ => none, fun f => false, noFacts, fun _ => 4⟩ : Cfg Try.prog)) noFacts_ok (n := 30) (f := 70) hmix_O hmix_rd rfl (by kernel_rfl) h
noncomputable def hmix_v (x0_0 x0_1 x0_2 x1_0 x1_1 x1_2 x2 : Int) : Int × Int × Int := (lerpS x0_0 x1_0 x2, lerpS x0_1 x1_1 x2, lerpS x0_2 x1_2 x2)
theorem hmix_spec (x0_0 x0_1 x0_2 x1_0 x1_1 x1_2 x2 : Int) : hmix_res x0_0 x0_1 x0_2 x1_0 x1_1 x1_2 x2 = some (hmix_v x0_0 x0_1 x0_2 x1_0 x1_1 x1_2 x2) := by simp only [hmix_res, hmix_v, cond_some]
noncomputable def hmix_m (args : List RV) (hp : Hp) : Option ((Int × Int × Int × Int × Int × Int × Int) × List Nat) := match args with
  | [.sv (.agg [.val _ (.int .i64 x0_0), .val _ (.int .i64 x0_1), .val _ (.int .i64 x0_2)]), .sv (.agg [.val _ (.int .i64 x1_0), .val _ (.int .i64 x1_1), .val _ (.int .i64 x1_2)]), .sv (.one (.val _ (.int .i64 x2)))] => some ((x0_0, x0_1, x0_2, x1_0, x1_1, x1_2, x2), [])
  | _ => none
noncomputable def hmix_con : Con Try.prog := conX Try.prog 70 hmix_m 0 (fun x => [.sv (.agg [.val false (.int .i64 x.1), .val false (.int .i64 x.2.1), .val false (.int .i64 x.2.2.1)]), .sv (.agg [.val false (.int .i64 x.2.2.2.1), .val false (.int .i64 x.2.2.2.2.1), .val false (.int .i64 x.2.2.2.2.2.1)]), .sv (.one (.val false (.int .i64 x.2.2.2.2.2.2)))]) (fun x => []) (fun x => none) (fun x => hmix_O (hmix_v x.1 x.2.1 x.2.2.1 x.2.2.2.1 x.2.2.2.2.1 x.2.2.2.2.2.1 x.2.2.2.2.2.2))
  (by
    intro args hp x r h
    unfold hmix_m at h
    split at h
    · cases h
      exact ⟨rfl, fun nx => ⟨rfl, (fun i hi => by cases hi), fun id o0 ho => by simp [hlook] at ho⟩⟩
    · cases h)
  (fun x h => ⟨rfl, rfl, hmix_tree (hmix_spec x.1 x.2.1 x.2.2.1 x.2.2.2.1 x.2.2.2.2.1 x.2.2.2.2.2.1 x.2.2.2.2.2.2)⟩)

noncomputable def hluma_O (v : Int) : Out := ⟨.sv (.one (.val false (.int .i64 v))), [], 1, []⟩
noncomputable def hluma_rd (out : Out) : Option (Int) := some (rI (rvC out.v 0 0))
noncomputable def hluma_res (x0_0 x0_1 x0_2 : Int) : Option (Int) := some (heldS ((IntKind.i64.wrap (IntKind.i64.wrap (IntKind.i64.wrap ((2 : Int) * heldS x0_0) + IntKind.i64.wrap ((5 : Int) * heldS x0_1)) + heldS x0_2)).fdiv ((2 : Int) ^ min (Int.toNat (3 : Int)) IntKind.i64.bits)))
set_option maxRecDepth 100000 in
theorem hluma_tree {x0_0 x0_1 x0_2 v : Int} (h : hluma_res x0_0 x0_1 x0_2 = some v) : CallOk Try.prog 72 [.sv (.agg [.val false (.int .i64 x0_0), .val false (.int .i64 x0_1), .val false (.int .i64 x0_2)])] [] 0 (hluma_O v) :=
  eng_tree (C := (⟨consVec, fun _ _ _ => none, fun f => false, noFacts, fun _ => 4⟩ : Cfg Try.prog)) noFacts_ok (n := 30) (f := 72) hluma_O hluma_rd rfl (by kernel_rfl) h
noncomputable def hluma_v (x0_0 x0_1 x0_2 : Int) : Int := heldS ((IntKind.i64.wrap (IntKind.i64.wrap (IntKind.i64.wrap ((2 : Int) * heldS x0_0) + IntKind.i64.wrap ((5 : Int) * heldS x0_1)) + heldS x0_2)).fdiv ((2 : Int) ^ min (Int.toNat (3 : Int)) IntKind.i64.bits))
theorem hluma_spec (x0_0 x0_1 x0_2 : Int) : hluma_res x0_0 x0_1 x0_2 = some (hluma_v x0_0 x0_1 x0_2) := by simp only [hluma_res, hluma_v, cond_some]
noncomputable def hluma_m (args : List RV) (hp : Hp) : Option ((Int × Int × Int) × List Nat) := match args with
  | [.sv (.agg [.val _ (.int .i64 x0_0), .val _ (.int .i64 x0_1), .val _ (.int .i64 x0_2)])] => some ((x0_0, x0_1, x0_2), [])
  | _ => none
noncomputable def hluma_con : Con Try.prog := conX Try.prog 72 hluma_m 0 (fun x => [.sv (.agg [.val false (.int .i64 x.1), .val false (.int .i64 x.2.1), .val false (.int .i64 x.2.2)])]) (fun x => []) (fun x => none) (fun x => hluma_O (hluma_v x.1 x.2.1 x.2.2))
  (by
    intro args hp x r h
    unfold hluma_m at h
    split at h
    · cases h
      exact ⟨rfl, fun nx => ⟨rfl, (fun i hi => by cases hi), fun id o0 ho => by simp [hlook] at ho⟩⟩
    · cases h)
  (fun x h => ⟨rfl, rfl, hluma_tree (hluma_spec x.1 x.2.1 x.2.2)⟩)

noncomputable def qadd_O (v : Int × Int × Int) : Out := ⟨.sv (.agg [.val false (.int .i64 v.1), .val false (.int .i64 v.2.1), .val false (.int .i64 v.2.2)]), [], 4, []⟩
noncomputable def qadd_rd (out : Out) : Option (Int × Int × Int) := some (rI (rvC out.v 0 0), rI (rvC out.v 0 1), rI (rvC out.v 0 2))
noncomputable def qadd_res (x0_0 x0_1 x0_2 x1_0 x1_1 x1_2 : Int) : Option (Int × Int × Int) := some (addS x0_0 x1_0, addS x0_1 x1_1, addS x0_2 x1_2)
set_option maxRecDepth 100000 in
theorem qadd_tree {x0_0 x0_1 x0_2 x1_0 x1_1 x1_2 : Int} {v : Int × Int × Int} (h : qadd_res x0_0 x0_1 x0_2 x1_0 x1_1 x1_2 = some v) : CallOk Try.prog 90 [.sv (.agg [.val false (.int .i64 x0_0), .val false (.int .i64 x0_1), .val false (.int .i64 x0_2)]), .sv (.agg [.val false (.int .i64 x1_0), .val false (.int .i64 x1_1), .val false (.int .i64 x1_2)])] [] 0 (qadd_O v) :=
  eng_tree (C := (⟨consVec, fun _ _ _ => none, fun f => false, noFacts, fun _ => 4⟩ : Cfg Try.prog)) noFacts_ok (n := 30) (f := 90) qadd_O qadd_rd rfl (by kernel_rfl) h
noncomputable def qadd_v (x0_0 x0_1 x0_2 x1_0 x1_1 x1_2 : Int) : Int × Int × Int := (addS x0_0 x1_0, addS x0_1 x1_1, addS x0_2 x1_2)
theorem qadd_spec (x0_0 x0_1 x0_2 x1_0 x1_1 x1_2 : Int) : qadd_res x0_0 x0_1 x0_2 x1_0 x1_1 x1_2 = some (qadd_v x0_0 x0_1 x0_2 x1_0 x1_1 x1_2) := by simp only [qadd_res, qadd_v, cond_some]
noncomputable def qadd_m (args : List RV) (hp : Hp) : Option ((Int × Int × Int × Int × Int × Int) × List Nat) := match args with
  | [.sv (.agg [.val _ (.int .i64 x0_0), .val _ (.int .i64 x0_1), .val _ (.int .i64 x0_2)]), .sv (.agg [.val _ (.int .i64 x1_0), .val _ (.int .i64 x1_1), .val _ (.int .i64 x1_2)])] => some ((x0_0, x0_1, x0_2, x1_0, x1_1, x1_2), [])
  | _ => none
noncomputable def qadd_con : Con Try.prog := conX Try.prog 90 qadd_m 0 (fun x => [.sv (.agg [.val false (.int .i64 x.1), .val false (.int .i64 x.2.1), .val false (.int .i64 x.2.2.1)]), .sv (.agg [.val false (.int .i64 x.2.2.2.1), .val false (.int .i64 x.2.2.2.2.1), .val false (.int .i64 x.2.2.2.2.2)])]) (fun x => []) (fun x => none) (fun x => qadd_O (qadd_v x.1 x.2.1 x.2.2.1 x.2.2.2.1 x.2.2.2.2.1 x.2.2.2.2.2))
  (by
    intro args hp x r h
    unfold qadd_m at h
    split at h
    · cases h
      exact ⟨rfl, fun nx => ⟨rfl, (fun i hi => by cases hi), fun id o0 ho => by simp [hlook] at ho⟩⟩
    · cases h)
  (fun x h => ⟨rfl, rfl, qadd_tree (qadd_spec x.1 x.2.1 x.2.2.1 x.2.2.2.1 x.2.2.2.2.1 x.2.2.2.2.2)⟩)

noncomputable def qsub_O (v : Int × Int × Int) : Out := ⟨.sv (.agg [.val false (.int .i64 v.1), .val false (.int .i64 v.2.1), .val false (.int .i64 v.2.2)]), [], 4, []⟩
noncomputable def qsub_rd (out : Out) : Option (Int × Int × Int) := some (rI (rvC out.v 0 0), rI (rvC out.v 0 1), rI (rvC out.v 0 2))
noncomputable def qsub_res (x0_0 x0_1 x0_2 x1_0 x1_1 x1_2 : Int) : Option (Int × Int × Int) := some (subS x0_0 x1_0, subS x0_1 x1_1, subS x0_2 x1_2)
set_option maxRecDepth 100000 in
theorem qsub_tree {x0_0 x0_1 x0_2 x1_0 x1_1 x1_2 : Int} {v : Int × Int × Int} (h : qsub_res x0_0 x0_1 x0_2 x1_0 x1_1 x1_2 = some v) : CallOk Try.prog 91 [.sv (.agg [.val false (.int .i64 x0_0), .val false (.int .i64 x0_1), .val false (.int .i64 x0_2)]), .sv (.agg [.val false (.int .i64 x1_0), .val false (.int .i64 x1_1), .val false (.int .i64 x1_2)])] [] 0 (qsub_O v) :=
  eng_tree (C := (⟨consVec, fun _ _ _ => none, fun f => false, noFacts, fun _ => 4⟩ : Cfg Try.prog)) noFacts_ok (n := 30) (f := 91) qsub_O qsub_rd rfl (by kernel_rfl) h
noncomputable def qsub_v (x0_0 x0_1 x0_2 x1_0 x1_1 x1_2 : Int) : Int × Int × Int := (subS x0_0 x1_0, subS x0_1 x1_1, subS x0_2 x1_2)
theorem qsub_spec (x0_0 x0_1 x0_2 x1_0 x1_1 x1_2 : Int) : qsub_res x0_0 x0_1 x0_2 x1_0 x1_1 x1_2 = some (qsub_v x0_0 x0_1 x0_2 x1_0 x1_1 x1_2) := by simp only [qsub_res, qsub_v, cond_some]
noncomputable def qsub_m (args : List RV) (hp : Hp) : Option ((Int × Int × Int × Int × Int × Int) × List Nat) := match args with
  | [.sv (.agg [.val _ (.int .i64 x0_0), .val _ (.int .i64 x0_1), .val _ (.int .i64 x0_2)]), .sv (.agg [.val _ (.int .i64 x1_0), .val _ (.int .i64 x1_1), .val _ (.int .i64 x1_2)])] => some ((x0_0, x0_1, x0_2, x1_0, x1_1, x1_2), [])
  | _ => none
noncomputable def qsub_con : Con Try.prog := conX Try.prog 91 qsub_m 0 (fun x => [.sv (.agg [.val false (.int .i64 x.1), .val false (.int .i64 x.2.1), .val false (.int .i64 x.2.2.1)]), .sv (.agg [.val false (.int .i64 x.2.2.2.1), .val false (.int .i64 x.2.2.2.2.1), .val false (.int .i64 x.2.2.2.2.2)])]) (fun x => []) (fun x => none) (fun x => qsub_O (qsub_v x.1 x.2.1 x.2.2.1 x.2.2.2.1 x.2.2.2.2.1 x.2.2.2.2.2))
  (by
    intro args hp x r h
    unfold qsub_m at h
    split at h
    · cases h
      exact ⟨rfl, fun nx => ⟨rfl, (fun i hi => by cases hi), fun id o0 ho => by simp [hlook] at ho⟩⟩
    · cases h)
  (fun x h => ⟨rfl, rfl, qsub_tree (qsub_spec x.1 x.2.1 x.2.2.1 x.2.2.2.1 x.2.2.2.2.1 x.2.2.2.2.2)⟩)

noncomputable def qmul_O (v : Int × Int × Int) : Out := ⟨.sv (.agg [.val false (.int .i64 v.1), .val false (.int .i64 v.2.1), .val false (.int .i64 v.2.2)]), [], 4, []⟩
noncomputable def qmul_rd (out : Out) : Option (Int × Int × Int) := some (rI (rvC out.v 0 0), rI (rvC out.v 0 1), rI (rvC out.v 0 2))
noncomputable def qmul_res (x0_0 x0_1 x0_2 x1_0 x1_1 x1_2 : Int) : Option (Int × Int × Int) := some (mulS x0_0 x1_0, mulS x0_1 x1_1, mulS x0_2 x1_2)
set_option maxRecDepth 100000 in
theorem qmul_tree {x0_0 x0_1 x0_2 x1_0 x1_1 x1_2 : Int} {v : Int × Int × Int} (h : qmul_res x0_0 x0_1 x0_2 x1_0 x1_1 x1_2 = some v) : CallOk Try.prog 78 [.sv (.agg [.val false (.int .i64 x0_0), .val false (.int .i64 x0_1), .val false (.int .i64 x0_2)]), .sv (.agg [.val false (.int .i64 x1_0), .val false (.int .i64 x1_1), .val false (.int .i64 x1_2)])] [] 0 (qmul_O v) :=
  eng_tree (C := (⟨consVec, fun _ _ _ => none, fun f => false, noFacts, fun _ => 4⟩ : Cfg Try.prog)) noFacts_ok (n := 30) (f := 78) qmul_O qmul_rd rfl (by kernel_rfl) h
noncomputable def qmul_v (x0_0 x0_1 x0_2 x1_0 x1_1 x1_2 : Int) : Int × Int × Int := (mulS x0_0 x1_0, mulS x0_1 x1_1, mulS x0_2 x1_2)
theorem qmul_spec (x0_0 x0_1 x0_2 x1_0 x1_1 x1_2 : Int) : qmul_res x0_0 x0_1 x0_2 x1_0 x1_1 x1_2 = some (qmul_v x0_0 x0_1 x0_2 x1_0 x1_1 x1_2) := by simp only [qmul_res, qmul_v, cond_some]
noncomputable def qmul_m (args : List RV) (hp : Hp) : Option ((Int × Int × Int × Int × Int × Int) × List Nat) := match args with
  | [.sv (.agg [.val _ (.int .i64 x0_0), .val _ (.int .i64 x0_1), .val _ (.int .i64 x0_2)]), .sv (.agg [.val _ (.int .i64 x1_0), .val _ (.int .i64 x1_1), .val _ (.int .i64 x1_2)])] => some ((x0_0, x0_1, x0_2, x1_0, x1_1, x1_2), [])
  | _ => none
noncomputable def qmul_con : Con Try.prog := conX Try.prog 78 qmul_m 0 (fun x => [.sv (.agg [.val false (.int .i64 x.1), .val false (.int .i64 x.2.1), .val false (.int .i64 x.2.2.1)]), .sv (.agg [.val false (.int .i64 x.2.2.2.1), .val false (.int .i64 x.2.2.2.2.1), .val false (.int .i64 x.2.2.2.2.2)])]) (fun x => []) (fun x => none) (fun x => qmul_O (qmul_v x.1 x.2.1 x.2.2.1 x.2.2.2.1 x.2.2.2.2.1 x.2.2.2.2.2))
  (by
    intro args hp x r h
    unfold qmul_m at h
    split at h
    · cases h
      exact ⟨rfl, fun nx => ⟨rfl, (fun i hi => by cases hi), fun id o0 ho => by simp [hlook] at ho⟩⟩
    · cases h)
  (fun x h => ⟨rfl, rfl, qmul_tree (qmul_spec x.1 x.2.1 x.2.2.1 x.2.2.2.1 x.2.2.2.2.1 x.2.2.2.2.2)⟩)

noncomputable def qscale_O (v : Int × Int × Int) : Out := ⟨.sv (.agg [.val false (.int .i64 v.1), .val false (.int .i64 v.2.1), .val false (.int .i64 v.2.2)]), [], 6, []⟩
noncomputable def qscale_rd (out : Out) : Option (Int × Int × Int) := some (rI (rvC out.v 0 0), rI (rvC out.v 0 1), rI (rvC out.v 0 2))
noncomputable def qscale_res (x0_0 x0_1 x0_2 x1 : Int) : Option (Int × Int × Int) := some (mulS x0_0 x1, mulS x0_1 x1, mulS x0_2 x1)
set_option maxRecDepth 100000 in
theorem qscale_tree {x0_0 x0_1 x0_2 x1 : Int} {v : Int × Int × Int} (h : qscale_res x0_0 x0_1 x0_2 x1 = some v) : CallOk Try.prog 77 [.sv (.agg [.val false (.int .i64 x0_0), .val false (.int .i64 x0_1), .val false (.int .i64 x0_2)]), .sv (.one (.val false (.int .i64 x1)))] [] 0 (qscale_O v) :=
  eng_tree (C := (⟨consVec, fun _ _ _ => none, fun f => false, noFacts, fun _ => 4⟩ : Cfg Try.prog)) noFacts_ok (n := 30) (f := 77) qscale_O qscale_rd rfl (by kernel_rfl) h
noncomputable def qscale_v (x0_0 x0_1 x0_2 x1 : Int) : Int × Int × Int := (mulS x0_0 x1, mulS x0_1 x1, mulS x0_2 x1)
theorem qscale_spec (x0_0 x0_1 x0_2 x1 : Int) : qscale_res x0_0 x0_1 x0_2 x1 = some (qscale_v x0_0 x0_1 x0_2 x1) := by simp only [qscale_res, qscale_v, cond_some]
noncomputable def qscale_m (args : List RV) (hp : Hp) : Option ((Int × Int × Int × Int) × List Nat) := match args with
  | [.sv (.agg [.val _ (.int .i64 x0_0), .val _ (.int .i64 x0_1), .val _ (.int .i64 x0_2)]), .sv (.one (.val _ (.int .i64 x1)))] => some ((x0_0, x0_1, x0_2, x1), [])
  | _ => none
noncomputable def qscale_con : Con Try.prog := conX Try.prog 77 qscale_m 0 (fun x => [.sv (.agg [.val false (.int .i64 x.1), .val false (.int .i64 x.2.1), .val false (.int .i64 x.2.2.1)]), .sv (.one (.val false (.int .i64 x.2.2.2)))]) (fun x => []) (fun x => none) (fun x => qscale_O (qscale_v x.1 x.2.1 x.2.2.1 x.2.2.2))
  (by
    intro args hp x r h
    unfold qscale_m at h
    split at h
    · cases h
      exact ⟨rfl, fun nx => ⟨rfl, (fun i hi => by cases hi), fun id o0 ho => by simp [hlook] at ho⟩⟩
    · cases h)
  (fun x h => ⟨rfl, rfl, qscale_tree (qscale_spec x.1 x.2.1 x.2.2.1 x.2.2.2)⟩)

noncomputable def qmix_O (v : Int × Int × Int) : Out := ⟨.sv (.agg [.val false (.int .i64 v.1), .val false (.int .i64 v.2.1), .val false (.int .i64 v.2.2)]), [], 4, []⟩
noncomputable def qmix_rd (out : Out) : Option (Int × Int × Int) := some (rI (rvC out.v 0 0), rI (rvC out.v 0 1), rI (rvC out.v 0 2))
noncomputable def qmix_res (x0_0 x0_1 x0_2 x1_0 x1_1 x1_2 x2 : Int) : Option (Int × Int × Int) := some (lerpS x0_0 x1_0 x2, lerpS x0_1 x1_1 x2, lerpS x0_2 x1_2 x2)
set_option maxRecDepth 100000 in
theorem qmix_tree {x0_0 x0_1 x0_2 x1_0 x1_1 x1_2 x2 : Int} {v : Int × Int × Int} (h : qmix_res x0_0 x0_1 x0_2 x1_0 x1_1 x1_2 x2 = some v) : CallOk Try.prog 89 [.sv (.agg [.val false (.int .i64 x0_0), .val false (.int .i64 x0_1), .val false (.int .i64 x0_2)]), .sv (.agg [.val false (.int .i64 x1_0), .val false (.int .i64 x1_1), .val false (.int .i64 x1_2)]), .sv (.one (.val false (.int .i64 x2)))] [] 0 (qmix_O v) :=
  eng_tree (C := (⟨consVec, fun _ _ _ => none, fun f => false, noFacts, fun _ => 4⟩ : Cfg Try.prog)) noFacts_ok (n := 30) (f := 89) qmix_O qmix_rd rfl (by kernel_rfl) h
noncomputable def qmix_v (x0_0 x0_1 x0_2 x1_0 x1_1 x1_2 x2 : Int) : Int × Int × Int := (lerpS x0_0 x1_0 x2, lerpS x0_1 x1_1 x2, lerpS x0_2 x1_2 x2)
theorem qmix_spec (x0_0 x0_1 x0_2 x1_0 x1_1 x1_2 x2 : Int) : qmix_res x0_0 x0_1 x0_2 x1_0 x1_1 x1_2 x2 = some (qmix_v x0_0 x0_1 x0_2 x1_0 x1_1 x1_2 x2) := by simp only [qmix_res, qmix_v, cond_some]
noncomputable def qmix_m (args : List RV) (hp : Hp) : Option ((Int × Int × Int × Int × Int × Int × Int) × List Nat) := match args with
  | [.sv (.agg [.val _ (.int .i64 x0_0), .val _ (.int .i64 x0_1), .val _ (.int .i64 x0_2)]), .sv (.agg [.val _ (.int .i64 x1_0), .val _ (.int .i64 x1_1), .val _ (.int .i64 x1_2)]), .sv (.one (.val _ (.int .i64 x2)))] => some ((x0_0, x0_1, x0_2, x1_0, x1_1, x1_2, x2), [])
  | _ => none
noncomputable def qmix_con : Con Try.prog := conX Try.prog 89 qmix_m 0 (fun x => [.sv (.agg [.val false (.int .i64 x.1), .val false (.int .i64 x.2.1), .val false (.int .i64 x.2.2.1)]), .sv (.agg [.val false (.int .i64 x.2.2.2.1), .val false (.int .i64 x.2.2.2.2.1), .val false (.int .i64 x.2.2.2.2.2.1)]), .sv (.one (.val false (.int .i64 x.2.2.2.2.2.2)))]) (fun x => []) (fun x => none) (fun x => qmix_O (qmix_v x.1 x.2.1 x.2.2.1 x.2.2.2.1 x.2.2.2.2.1 x.2.2.2.2.2.1 x.2.2.2.2.2.2))
  (by
    intro args hp x r h
    unfold qmix_m at h
    split at h
    · cases h
      exact ⟨rfl, fun nx => ⟨rfl, (fun i hi => by cases hi), fun id o0 ho => by simp [hlook] at ho⟩⟩
    · cases h)
  (fun x h => ⟨rfl, rfl, qmix_tree (qmix_spec x.1 x.2.1 x.2.2.1 x.2.2.2.1 x.2.2.2.2.1 x.2.2.2.2.2.1 x.2.2.2.2.2.2)⟩)

noncomputable def qluma_O (v : Int) : Out := ⟨.sv (.one (.val false (.int .i64 v))), [], 2, []⟩
noncomputable def qluma_rd (out : Out) : Option (Int) := some (rI (rvC out.v 0 0))
noncomputable def qluma_res (x0_0 x0_1 x0_2 : Int) : Option (Int) := some (heldS (IntKind.i64.wrap ((IntKind.i64.wrap (IntKind.i64.wrap (IntKind.i64.wrap (IntKind.i64.wrap ((2 : Int) * heldS x0_0) + IntKind.i64.wrap ((5 : Int) * heldS x0_1)) + heldS x0_2) - bif decide ((IntKind.i64.wrap (IntKind.i64.wrap (IntKind.i64.wrap ((2 : Int) * heldS x0_0) + IntKind.i64.wrap ((5 : Int) * heldS x0_1)) + heldS x0_2)).tmod (8 : Int) < (0 : Int)) then IntKind.i64.wrap ((IntKind.i64.wrap (IntKind.i64.wrap (IntKind.i64.wrap ((2 : Int) * heldS x0_0) + IntKind.i64.wrap ((5 : Int) * heldS x0_1)) + heldS x0_2)).tmod (8 : Int) + (8 : Int)) else (IntKind.i64.wrap (IntKind.i64.wrap (IntKind.i64.wrap ((2 : Int) * heldS x0_0) + IntKind.i64.wrap ((5 : Int) * heldS x0_1)) + heldS x0_2)).tmod (8 : Int))).tdiv (8 : Int))))
set_option maxRecDepth 100000 in
theorem qluma_tree {x0_0 x0_1 x0_2 v : Int} (h : qluma_res x0_0 x0_1 x0_2 = some v) : CallOk Try.prog 88 [.sv (.agg [.val false (.int .i64 x0_0), .val false (.int .i64 x0_1), .val false (.int .i64 x0_2)])] [] 0 (qluma_O v) :=
  eng_tree (C := (⟨consVec, fun _ _ _ => none, fun f => false, noFacts, fun _ => 4⟩ : Cfg Try.prog)) noFacts_ok (n := 30) (f := 88) qluma_O qluma_rd rfl (by kernel_rfl) h
noncomputable def qluma_v (x0_0 x0_1 x0_2 : Int) : Int := heldS (IntKind.i64.wrap ((IntKind.i64.wrap (IntKind.i64.wrap (IntKind.i64.wrap (IntKind.i64.wrap ((2 : Int) * heldS x0_0) + IntKind.i64.wrap ((5 : Int) * heldS x0_1)) + heldS x0_2) - bif decide ((IntKind.i64.wrap (IntKind.i64.wrap (IntKind.i64.wrap ((2 : Int) * heldS x0_0) + IntKind.i64.wrap ((5 : Int) * heldS x0_1)) + heldS x0_2)).tmod (8 : Int) < (0 : Int)) then IntKind.i64.wrap ((IntKind.i64.wrap (IntKind.i64.wrap (IntKind.i64.wrap ((2 : Int) * heldS x0_0) + IntKind.i64.wrap ((5 : Int) * heldS x0_1)) + heldS x0_2)).tmod (8 : Int) + (8 : Int)) else (IntKind.i64.wrap (IntKind.i64.wrap (IntKind.i64.wrap ((2 : Int) * heldS x0_0) + IntKind.i64.wrap ((5 : Int) * heldS x0_1)) + heldS x0_2)).tmod (8 : Int))).tdiv (8 : Int)))
theorem qluma_spec (x0_0 x0_1 x0_2 : Int) : qluma_res x0_0 x0_1 x0_2 = some (qluma_v x0_0 x0_1 x0_2) := by simp only [qluma_res, qluma_v, cond_some]
noncomputable def qluma_m (args : List RV) (hp : Hp) : Option ((Int × Int × Int) × List Nat) := match args with
  | [.sv (.agg [.val _ (.int .i64 x0_0), .val _ (.int .i64 x0_1), .val _ (.int .i64 x0_2)])] => some ((x0_0, x0_1, x0_2), [])
  | _ => none
noncomputable def qluma_con : Con Try.prog := conX Try.prog 88 qluma_m 0 (fun x => [.sv (.agg [.val false (.int .i64 x.1), .val false (.int .i64 x.2.1), .val false (.int .i64 x.2.2)])]) (fun x => []) (fun x => none) (fun x => qluma_O (qluma_v x.1 x.2.1 x.2.2))
  (by
    intro args hp x r h
    unfold qluma_m at h
    split at h
    · cases h
      exact ⟨rfl, fun nx => ⟨rfl, (fun i hi => by cases hi), fun id o0 ho => by simp [hlook] at ho⟩⟩
    · cases h)
  (fun x h => ⟨rfl, rfl, qluma_tree (qluma_spec x.1 x.2.1 x.2.2)⟩)
def shadeG : List Value → Option Value
  | [.int .i64 x] => some (.int .u8 (shadeS x))
  | _ => none
theorem shadeC {f : FuncId} (h : ∀ y w, Calls Try.prog f #[.int .i64 y] w fun e w' => e = .returned (.int .u8 (shadeS y)) ∧ w = w') (vs : List Value) (V : Value) (hV : shadeG vs = some V) (w : World) :
    Calls Try.prog f vs.toArray w fun en w' => en = .returned V ∧ Below w.heap.size w w' := by
  unfold shadeG at hV
  split at hV
  · cases hV
    exact (h _ w).mono fun e w' k => ⟨k.1, k.2 ▸ Below.refl _ _⟩
  · cases hV
noncomputable def consHue : List (Con Try.prog) := [hto_con, hfrom_con, hgray_con, hadd_con, hsub_con, hmul_con, hscale_con, hmix_con, hluma_con, qadd_con, qsub_con, qmul_con, qscale_con, qmix_con, qluma_con, conV Try.prog 42 shadeG (shadeC shade_any), conV Try.prog 45 shadeG (shadeC rshade_any)] ++ consVec
end Go.Proofs.Ytonlllijdbjkaaa
