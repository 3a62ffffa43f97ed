/- How many pieces. No condition. -/
import Derived.Test.YtikhlpbloffidaaEngPack4
set_option linter.unusedVariables false
set_option linter.unusedSimpArgs false
namespace Go.Proofs.Ytikhlpbloffidaa
open Go.RowKit

theorem opt_get {α : Type} [Inhabited α] {o : Option α} (h : o.isSome = true) : o = some (o.getD default) := by cases o with | none => cases h | some v => rfl

noncomputable def ppcs_L0_S (x0 : List (List Ct)) (v : Int × Int × List (List Ct)) : St := ⟨[.sv (.one (.ext 1)), .dead, .sv (.one (.val false (.int .i64 v.1))), .sv (.one (.val false (.int .i64 v.2.1))), .sv (.one (.val true (.int .i64 0))), .dead, .dead, .dead, .dead, .dead, .dead, .dead, .dead, .dead, .dead, .dead, .dead, .dead, .dead, .dead, .dead, .dead, .dead, .dead, .dead, .dead, .dead, .dead, .dead, .dead, .dead, .dead, .dead, .dead], [(0, .grid ([Sh.int IntKind.u8]) x0), (1, .grid ([Sh.int IntKind.u8]) v.2.2)], 2, []⟩
noncomputable def ppcs_L0_T (x0 : List (List Ct)) : (Int × Int × List (List Ct)) ⊕ (Unit) → Ex × St
  | .inl v => ((.exit 0), ⟨[.sv (.one (.ext 1)), .dead, .sv (.one (.val false (.int .i64 v.1))), .sv (.one (.val false (.int .i64 v.2.1))), .sv (.one (.val true (.int .i64 0))), .dead, .dead, .dead, .dead, .dead, .dead, .dead, .dead, .dead, .dead, .dead, .dead, .dead, .dead, .dead, .dead, .dead, .dead, .dead, .dead, .dead, .dead, .dead, .dead, .dead, .dead, .dead, .dead, .dead], [(0, .grid ([Sh.int IntKind.u8]) x0), (1, .grid ([Sh.int IntKind.u8]) v.2.2)], 3, []⟩)
  | .inr v => (.ret, ⟨[.dead, .dead, .sv (.one (.val true (.int .i64 0))), .sv (.one (.val true (.int .i64 0))), .sv (.one (.val true (.int .i64 9))), .dead, .dead, .dead, .dead, .dead, .dead, .dead, .dead, .dead, .dead, .dead, .dead, .dead, .dead, .dead, .dead, .dead, .dead, .dead, .dead, .dead, .dead, .dead, .dead, .dead, .dead, .dead, .dead, .dead], [(0, .grid ([Sh.int IntKind.u8]) x0)], 7, []⟩)
noncomputable def ppcs_L0_rd (ex : Ex) (s : St) : Option ((Int × Int × List (List Ct)) ⊕ ((Int × Int × List (List Ct)) ⊕ (Unit))) × List (Nat × Option Nat) := match ex with
  | .normal => (some (.inl (rI (frC s 2 0), rI (frC s 3 0), rL s (frC s 0 0))), [rnOf 1 (frC s 0 0)])
  | .exit i => bif Nat.beq i 0 then (some (.inr (.inl (rI (frC s 2 0), rI (frC s 3 0), rL s (frC s 0 0)))), [(1, some 1)]) else (none, [])
  | .ret => (some (.inr (.inr ())), [])
noncomputable def ppcs_L0_step (x0 : List (List Ct)) : (Int × Int × List (List Ct)) → Option ((Int × Int × List (List Ct)) ⊕ ((Int × Int × List (List Ct)) ⊕ (Unit))) := fun v => match v with
  | (vi0, vi1, vl0) => bif (decide ((↑vl0.length : Int) > (0 : Int))) then (bif (decide ((0 : Int) ≤ (0 : Int) ∧ (0 : Int) < (↑vl0.length : Int))) then bif (decide (IntKind.i64.wrap (rd vl0 (Int.toNat (0 : Int)) 0).int ≥ (128 : Int))) then (bif (decide (IntKind.i64.wrap ((↑vl0.length : Int) - (1 : Int)) < (1 : Int))) then (some (.inr (.inr ()))) else bif (decide ((0 : Int) ≤ (2 : Int) ∧ (2 : Int) ≤ (↑vl0.length : Int) ∧ (↑vl0.length : Int) ≤ (↑vl0.length : Int))) then some (.inl (IntKind.i64.wrap (vi0 + (1 : Int)), vi1, partOf vl0 (2 : Int) (↑vl0.length : Int))) else none) else bif (decide ((0 : Int) ≤ (0 : Int) ∧ (0 : Int) < (↑vl0.length : Int))) then bif (decide (IntKind.i64.wrap ((↑vl0.length : Int) - (1 : Int)) < IntKind.i64.wrap (IntKind.i64.wrap (rd vl0 (Int.toNat (0 : Int)) 0).int + (1 : Int)))) then (some (.inr (.inr ()))) else bif (decide ((0 : Int) ≤ IntKind.i64.wrap ((1 : Int) + IntKind.i64.wrap (IntKind.i64.wrap (rd vl0 (Int.toNat (0 : Int)) 0).int + (1 : Int))) ∧ IntKind.i64.wrap ((1 : Int) + IntKind.i64.wrap (IntKind.i64.wrap (rd vl0 (Int.toNat (0 : Int)) 0).int + (1 : Int))) ≤ (↑vl0.length : Int) ∧ (↑vl0.length : Int) ≤ (↑vl0.length : Int))) then some (.inl (vi0, IntKind.i64.wrap (vi1 + (1 : Int)), partOf vl0 (IntKind.i64.wrap ((1 : Int) + IntKind.i64.wrap (IntKind.i64.wrap (rd vl0 (Int.toNat (0 : Int)) 0).int + (1 : Int)))) (↑vl0.length : Int))) else none else none else none) else some (.inr (.inl (vi0, vi1, vl0)))
noncomputable def ppcs_L0_c : Code := loopC Try.prog 12 0
set_option maxRecDepth 100000 in
theorem ppcs_L0_ok (x0 : List (List Ct)) : ∀ v, StepOk Try.prog 1 ppcs_L0_c (ppcs_L0_S x0) (ppcs_L0_T x0) v (ppcs_L0_step x0 v) := fun v => match v with | (vi0, vi1, vl0) => eng_step (C := (⟨consPack, fun _ _ _ => none, fun f => false, noFacts, fun _ => 0⟩ : Cfg Try.prog)) noFacts_ok (n := 30) (f := 12) ppcs_L0_rd (fun r => by cases r <;> rfl) (by kernel_rfl)
noncomputable def ppcs_L0_p (x0 : List (List Ct)) : Bool := (iter (ppcs_L0_step x0) (x0.length + 1) (0, 0, x0)).isSome
noncomputable def ppcs_L0_v (x0 : List (List Ct)) : (Int × Int × List (List Ct)) ⊕ (Unit) := (iter (ppcs_L0_step x0) (x0.length + 1) (0, 0, x0)).getD (.inl default)
noncomputable def ppcs_L0_lc (x0 : List (List Ct)) : LoopCon Try.prog := loopCon2 Try.prog 1 ppcs_L0_c [(1, some 0)] (ppcs_L0_S x0) (ppcs_L0_T x0) 0 (ppcs_L0_step x0) (ppcs_L0_ok x0) (x0.length + 1) (0, 0, x0) (ppcs_L0_p x0) rfl (ppcs_L0_v x0) rfl
noncomputable def ppcs_O (v : Int × Int × Int) : Out := ⟨.tup [.one (.val false (.int .i64 v.1)), .one (.val false (.int .i64 v.2.1)), .one (.val false (.int .i64 v.2.2))], [], 7, []⟩
noncomputable def ppcs_rd (out : Out) : Option (Int × Int × Int) := some (rI (rvC out.v 0 0), rI (rvC out.v 1 0), rI (rvC out.v 2 0))
noncomputable def ppcs_res (x0 : List (List Ct)) : Option (Int × Int × Int) := bif (ppcs_L0_p x0) then bif (isL (ppcs_L0_v x0)) then (some ((getL (ppcs_L0_v x0)).fst, (getL (ppcs_L0_v x0)).snd.fst, 0)) else some (0, 0, 9) else none
set_option maxRecDepth 100000 in
theorem ppcs_tree {x0 : List (List Ct)} {v : Int × Int × Int} (h : ppcs_res x0 = some v) : CallOk Try.prog 12 [.sv (.one (.ext 0))] [(0, .grid [.int .u8] x0)] 1 (ppcs_O v) :=
  eng_tree (C := (⟨consPack, fun f id nx => bif Nat.beq f 12 then (bif Nat.beq id 0 then some (ppcs_L0_lc x0) else none) else none, fun f => false, noFacts, fun _ => 0⟩ : Cfg Try.prog)) noFacts_ok (n := 30) (f := 12) ppcs_O ppcs_rd rfl (by kernel_rfl) h
noncomputable def ppcs_v (x0 : List (List Ct)) : Int × Int × Int := (ppcs_res x0).getD default
theorem ppcs_spec (x0 : List (List Ct)) (h : ((ppcs_res x0).isSome) = true) : ppcs_res x0 = some (ppcs_v x0) := opt_get h
noncomputable def ppcs_m (args : List RV) (hp : Hp) : Option ((List (List Ct)) × List Nat) := match args with
  | [.sv (.one (.ext i0))] => (match gridAt hp i0 [.int .u8] with
    | some x0 => some (x0, [i0])
    | _ => none)
  | _ => none
noncomputable def ppcs_con : Con Try.prog := conX Try.prog 12 ppcs_m 1 (fun x => [.sv (.one (.ext 0))]) (fun x => [(0, .grid [.int .u8] x)]) (fun x => some ((ppcs_res x).isSome)) (fun x => ppcs_O (ppcs_v x))
  (by
    intro args hp x r h
    unfold ppcs_m at h
    split at h
    · split at h
      · rename_i g0
        cases h
        refine ⟨rfl, fun nx => ⟨rfl, ?_, ?_⟩⟩
        · intro i hi
          simp only [List.mem_cons, List.not_mem_nil, or_false] at hi
          rcases hi with rfl
          · exact ⟨_, List.mem_of_getElem? (i := 0) rfl, .inl (by simp [RV.ids, SV.ids, CV.ids])⟩
        · intro id o0 ho
          have := hlook_mem ho
          simp only [List.mem_cons, Prod.mk.injEq, List.not_mem_nil, or_false] at this
          rcases this with ⟨rfl, rfl⟩
          · exact ⟨_, gridAt_spec g0, rfl⟩
      · cases h
    · cases h)
  (fun x h => ⟨rfl, rfl, ppcs_tree (ppcs_spec x (h _ rfl))⟩)

noncomputable def rpcs_L0_S (x0 : List (List Ct)) (v : Int × Int × Int) : St := ⟨[.sv (.one (.ext 0)), .dead, .sv (.one (.val true (.int .i64 0))), .sv (.one (.val true (.int .i64 0))), .sv (.one (.val true (.int .i64 0))), .sv (.one (.val false (.int .i64 v.1))), .sv (.one (.val false (.int .i64 v.2.1))), .sv (.one (.val false (.int .i64 v.2.2))), .dead, .dead, .dead, .dead, .dead, .dead, .dead, .dead, .dead, .dead, .dead, .dead, .dead, .dead, .dead, .dead, .dead, .dead, .dead, .dead, .dead, .dead, .dead, .dead, .dead, .dead, .dead, .dead, .dead], [(0, .grid ([Sh.int IntKind.u8]) x0)], 1, []⟩
noncomputable def rpcs_L0_T (x0 : List (List Ct)) : (Int × Int × Int) ⊕ (Unit) → Ex × St
  | .inl v => ((.exit 0), ⟨[.sv (.one (.ext 0)), .dead, .sv (.one (.val true (.int .i64 0))), .sv (.one (.val true (.int .i64 0))), .sv (.one (.val true (.int .i64 0))), .sv (.one (.val false (.int .i64 v.1))), .sv (.one (.val false (.int .i64 v.2.1))), .sv (.one (.val false (.int .i64 v.2.2))), .dead, .dead, .dead, .dead, .dead, .dead, .dead, .dead, .dead, .dead, .dead, .dead, .dead, .dead, .dead, .dead, .dead, .dead, .dead, .dead, .dead, .dead, .dead, .dead, .dead, .dead, .dead, .dead, .dead], [(0, .grid ([Sh.int IntKind.u8]) x0)], 2, []⟩)
  | .inr v => (.ret, ⟨[.dead, .dead, .sv (.one (.val true (.int .i64 0))), .sv (.one (.val true (.int .i64 0))), .sv (.one (.val true (.int .i64 9))), .dead, .dead, .dead, .dead, .dead, .dead, .dead, .dead, .dead, .dead, .dead, .dead, .dead, .dead, .dead, .dead, .dead, .dead, .dead, .dead, .dead, .dead, .dead, .dead, .dead, .dead, .dead, .dead, .dead, .dead, .dead, .dead], [(0, .grid ([Sh.int IntKind.u8]) x0)], 6, []⟩)
noncomputable def rpcs_L0_rd (ex : Ex) (s : St) : Option ((Int × Int × Int) ⊕ ((Int × Int × Int) ⊕ (Unit))) × List (Nat × Option Nat) := match ex with
  | .normal => (some (.inl (rI (frC s 5 0), rI (frC s 6 0), rI (frC s 7 0))), [])
  | .exit i => bif Nat.beq i 0 then (some (.inr (.inl (rI (frC s 5 0), rI (frC s 6 0), rI (frC s 7 0)))), []) else (none, [])
  | .ret => (some (.inr (.inr ())), [])
noncomputable def rpcs_L0_step (x0 : List (List Ct)) : (Int × Int × Int) → Option ((Int × Int × Int) ⊕ ((Int × Int × Int) ⊕ (Unit))) := fun v => match v with
  | (vi0, vi1, vi2) => bif (decide (vi2 < (↑x0.length : Int))) then (bif (decide ((0 : Int) ≤ vi2 ∧ vi2 < (↑x0.length : Int))) then bif (decide ((rd x0 vi2.toNat 0).int ≥ (128 : Int))) then (bif (decide (IntKind.i64.wrap (vi2 + (2 : Int)) > (↑x0.length : Int))) then (some (.inr (.inr ()))) else some (.inl (IntKind.i64.wrap (vi0 + (1 : Int)), vi1, IntKind.i64.wrap (vi2 + (2 : Int))))) else bif (decide ((0 : Int) ≤ vi2 ∧ vi2 < (↑x0.length : Int))) then bif (decide (IntKind.i64.wrap (IntKind.i64.wrap (vi2 + (2 : Int)) + IntKind.i64.wrap (rd x0 vi2.toNat 0).int) > (↑x0.length : Int))) then (some (.inr (.inr ()))) else some (.inl (vi0, IntKind.i64.wrap (vi1 + (1 : Int)), IntKind.i64.wrap (IntKind.i64.wrap (vi2 + (2 : Int)) + IntKind.i64.wrap (rd x0 vi2.toNat 0).int))) else none else none) else some (.inr (.inl (vi0, vi1, vi2)))
noncomputable def rpcs_L0_c : Code := loopC Try.prog 13 0
set_option maxRecDepth 100000 in
theorem rpcs_L0_ok (x0 : List (List Ct)) : ∀ v, StepOk Try.prog 1 rpcs_L0_c (rpcs_L0_S x0) (rpcs_L0_T x0) v (rpcs_L0_step x0 v) := fun v => match v with | (vi0, vi1, vi2) => eng_step (C := (⟨consPack, fun _ _ _ => none, fun f => false, noFacts, fun _ => 0⟩ : Cfg Try.prog)) noFacts_ok (n := 30) (f := 13) rpcs_L0_rd (fun r => by cases r <;> rfl) (by kernel_rfl)
noncomputable def rpcs_L0_p (x0 : List (List Ct)) : Bool := (iter (rpcs_L0_step x0) (x0.length + 1) (0, 0, 0)).isSome
noncomputable def rpcs_L0_v (x0 : List (List Ct)) : (Int × Int × Int) ⊕ (Unit) := (iter (rpcs_L0_step x0) (x0.length + 1) (0, 0, 0)).getD (.inl default)
noncomputable def rpcs_L0_lc (x0 : List (List Ct)) : LoopCon Try.prog := loopCon2 Try.prog 1 rpcs_L0_c [] (rpcs_L0_S x0) (rpcs_L0_T x0) 0 (rpcs_L0_step x0) (rpcs_L0_ok x0) (x0.length + 1) (0, 0, 0) (rpcs_L0_p x0) rfl (rpcs_L0_v x0) rfl
noncomputable def rpcs_O (v : Int × Int × Int) : Out := ⟨.tup [.one (.val false (.int .i64 v.1)), .one (.val false (.int .i64 v.2.1)), .one (.val false (.int .i64 v.2.2))], [], 6, []⟩
noncomputable def rpcs_rd (out : Out) : Option (Int × Int × Int) := some (rI (rvC out.v 0 0), rI (rvC out.v 1 0), rI (rvC out.v 2 0))
noncomputable def rpcs_res (x0 : List (List Ct)) : Option (Int × Int × Int) := bif (rpcs_L0_p x0) then bif (isL (rpcs_L0_v x0)) then (some ((getL (rpcs_L0_v x0)).fst, (getL (rpcs_L0_v x0)).snd.fst, 0)) else some (0, 0, 9) else none
set_option maxRecDepth 100000 in
theorem rpcs_tree {x0 : List (List Ct)} {v : Int × Int × Int} (h : rpcs_res x0 = some v) : CallOk Try.prog 13 [.sv (.one (.ext 0))] [(0, .grid [.int .u8] x0)] 1 (rpcs_O v) :=
  eng_tree (C := (⟨consPack, fun f id nx => bif Nat.beq f 13 then (bif Nat.beq id 0 then some (rpcs_L0_lc x0) else none) else none, fun f => false, noFacts, fun _ => 0⟩ : Cfg Try.prog)) noFacts_ok (n := 30) (f := 13) rpcs_O rpcs_rd rfl (by kernel_rfl) h
noncomputable def rpcs_v (x0 : List (List Ct)) : Int × Int × Int := (rpcs_res x0).getD default
theorem rpcs_spec (x0 : List (List Ct)) (h : ((rpcs_res x0).isSome) = true) : rpcs_res x0 = some (rpcs_v x0) := opt_get h
noncomputable def rpcs_m (args : List RV) (hp : Hp) : Option ((List (List Ct)) × List Nat) := match args with
  | [.sv (.one (.ext i0))] => (match gridAt hp i0 [.int .u8] with
    | some x0 => some (x0, [i0])
    | _ => none)
  | _ => none
noncomputable def rpcs_con : Con Try.prog := conX Try.prog 13 rpcs_m 1 (fun x => [.sv (.one (.ext 0))]) (fun x => [(0, .grid [.int .u8] x)]) (fun x => some ((rpcs_res x).isSome)) (fun x => rpcs_O (rpcs_v x))
  (by
    intro args hp x r h
    unfold rpcs_m at h
    split at h
    · split at h
      · rename_i g0
        cases h
        refine ⟨rfl, fun nx => ⟨rfl, ?_, ?_⟩⟩
        · intro i hi
          simp only [List.mem_cons, List.not_mem_nil, or_false] at hi
          rcases hi with rfl
          · exact ⟨_, List.mem_of_getElem? (i := 0) rfl, .inl (by simp [RV.ids, SV.ids, CV.ids])⟩
        · intro id o0 ho
          have := hlook_mem ho
          simp only [List.mem_cons, Prod.mk.injEq, List.not_mem_nil, or_false] at this
          rcases this with ⟨rfl, rfl⟩
          · exact ⟨_, gridAt_spec g0, rfl⟩
      · cases h
    · cases h)
  (fun x h => ⟨rfl, rfl, rpcs_tree (rpcs_spec x (h _ rfl))⟩)
noncomputable def consPack5 : List (Con Try.prog) := [ppcs_con.freeze, rpcs_con.freeze] ++ consPack4
end Go.Proofs.Ytikhlpbloffidaa
