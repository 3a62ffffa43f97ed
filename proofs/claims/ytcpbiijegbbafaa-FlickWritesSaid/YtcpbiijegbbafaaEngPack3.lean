/- Press. No condition. -/
import Derived.Test.YtcpbiijegbbafaaEngPack2
set_option linter.unusedVariables false
set_option linter.unusedSimpArgs false
namespace Go.Proofs.Ytcpbiijegbbafaa
open Go.RowKit

noncomputable def pprs_L0_S (x0 : List (List Ct)) (v : Int × List (List Ct)) : St := ⟨[.o (.ext 0), .d, .o (.val true (Value.slice none 0 0)), .o (.ext 1), .o (.q v.1), .d, .d, .d, .d, .d, .d, .d, .d, .d, .d, .d, .d, .d, .d, .d, .d, .d, .d, .d, .d, .d, .d, .d, .d, .d, .d, .d, .d, .d, .d, .d, .d, .d, .d, .d, .d, .d, .d, .d, .d, .d, .d, .d, .d], [(0, .grid ([Sh.int IntKind.u8]) x0), (1, .row ([Sh.int IntKind.u8]) 5 v.2)], 2, []⟩
noncomputable def pprs_L0_T (x0 : List (List Ct)) (v : Int × List (List Ct)) : Ex × St := ((.exit 0), ⟨(pprs_L0_S x0 v).fr, (pprs_L0_S x0 v).hp, 3, []⟩)
noncomputable def pprs_L0_rd (ex : Ex) (s : St) : Option ((Int × List (List Ct)) ⊕ (Int × List (List Ct))) × List (Nat × Option Nat) := match ex with
  | .normal => (some (.inl (rI (frC s 4 0), rL s (frC s 3 0))), [rnOf 1 (frC s 3 0)])
  | .exit i => bif Nat.beq i 0 then (some (.inr (rI (frC s 4 0), rL s (frC s 3 0))), [(1, some 1)]) else (none, [])
  | _ => (none, [])
noncomputable def pprs_L0_step (x0 : List (List Ct)) : (Int × List (List Ct)) → Option ((Int × List (List Ct)) ⊕ (Int × List (List Ct))) := fun v => match v with
  | (vi0, vl0) => bif (decide (vi0 < (↑x0.length : Int))) then (bif (prun_L0_p x0 vi0 (129 : Int)) then bif (decide (prun_v x0 vi0 (129 : Int) ≥ (3 : Int))) then (bif (decide ((0 : Int) ≤ vi0 ∧ vi0 < (↑x0.length : Int))) then bif (decide (vl0.length + [[Ct.i (IntKind.u8.wrap (IntKind.i64.wrap (prun_v x0 vi0 (129 : Int) + (126 : Int))))], [Ct.i (rd x0 vi0.toNat 0).int]].length ≤ 9223372036854775807 ∧ (vl0.length + [[Ct.i (IntKind.u8.wrap (IntKind.i64.wrap (prun_v x0 vi0 (129 : Int) + (126 : Int))))], [Ct.i (rd x0 vi0.toNat 0).int]].length) * 1 ≤ 140737488355328)) then some (.inl (IntKind.i64.wrap (vi0 + prun_v x0 vi0 (129 : Int)), vl0 ++ [[Ct.i (IntKind.u8.wrap (IntKind.i64.wrap (prun_v x0 vi0 (129 : Int) + (126 : Int))))], [Ct.i (rd x0 vi0.toNat 0).int]])) else none else none) else bif (ppln_L0_p x0 vi0) then bif (decide (vl0.length + [[Ct.i (IntKind.u8.wrap (IntKind.i64.wrap (ppln_v x0 vi0 - (1 : Int))))]].length ≤ 9223372036854775807 ∧ (vl0.length + [[Ct.i (IntKind.u8.wrap (IntKind.i64.wrap (ppln_v x0 vi0 - (1 : Int))))]].length) * 1 ≤ 140737488355328)) then bif (decide ((0 : Int) ≤ vi0 ∧ vi0 ≤ IntKind.i64.wrap (vi0 + ppln_v x0 vi0) ∧ IntKind.i64.wrap (vi0 + ppln_v x0 vi0) ≤ (↑x0.length : Int))) then bif (decide ((vl0 ++ [[Ct.i (IntKind.u8.wrap (IntKind.i64.wrap (ppln_v x0 vi0 - (1 : Int))))]]).length + (partOf x0 vi0 (IntKind.i64.wrap (vi0 + ppln_v x0 vi0))).length ≤ 9223372036854775807 ∧ ((vl0 ++ [[Ct.i (IntKind.u8.wrap (IntKind.i64.wrap (ppln_v x0 vi0 - (1 : Int))))]]).length + (partOf x0 vi0 (IntKind.i64.wrap (vi0 + ppln_v x0 vi0))).length) * 1 ≤ 140737488355328)) then some (.inl (IntKind.i64.wrap (vi0 + ppln_v x0 vi0), vl0 ++ [[Ct.i (IntKind.u8.wrap (IntKind.i64.wrap (ppln_v x0 vi0 - (1 : Int))))]] ++ partOf x0 vi0 (IntKind.i64.wrap (vi0 + ppln_v x0 vi0)))) else none else none else none else none else none) else some (.inr (vi0, vl0))
noncomputable def pprs_L0_c : Code := loopC Try.prog 122 0
set_option maxRecDepth 100000 in
theorem pprs_L0_ok (x0 : List (List Ct)) : ∀ v, StepOk Try.prog 1 pprs_L0_c (pprs_L0_S x0) (pprs_L0_T x0) v (pprs_L0_step x0 v) := fun v => match v with | (vi0, vl0) => eng_step (C := (⟨consPack2, fun _ _ _ => none, fun f => false, noFacts, fun _ => 0⟩ : Cfg Try.prog)) noFacts_ok (n := 30) (f := 122) pprs_L0_rd (fun _ => rfl) (by kernel_rfl)
noncomputable def pprs_L0_p (x0 : List (List Ct)) : Bool := (iter (pprs_L0_step x0) (x0.length + 1) (0, [])).isSome
noncomputable def pprs_L0_v (x0 : List (List Ct)) : Int × List (List Ct) := loopRes (pprs_L0_step x0) (x0.length + 1) (0, [])
set_option maxRecDepth 100000 in
noncomputable def pprs_L0_lc (x0 : List (List Ct)) : LoopCon Try.prog := loopCon Try.prog 1 pprs_L0_c [(1, none)] (pprs_L0_S x0) (pprs_L0_T x0) 0 (pprs_L0_step x0) (pprs_L0_ok x0) (x0.length + 1) (0, []) (pprs_L0_p x0) rfl (pprs_L0_v x0) rfl
noncomputable def pprs_O (v : List (List Ct)) : Out := ⟨.sv (.one (.ext 1)), [(1, .row ([Sh.int IntKind.u8]) 5 v)], 3, []⟩
noncomputable def pprs_rd (out : Out) : Option (List (List Ct)) := some (hpL' out.up 1)
noncomputable def pprs_res (x0 : List (List Ct)) : Option (List (List Ct)) := bif (pprs_L0_p x0) then some ((pprs_L0_v x0).snd) else none
set_option maxRecDepth 100000 in
theorem pprs_tree {x0 : List (List Ct)} {v : List (List Ct)} (h : pprs_res x0 = some v) : CallOk Try.prog 122 [.sv (.one (.ext 0))] [(0, .grid [.int .u8] x0)] 1 (pprs_O v) :=
  eng_tree (C := (⟨consPack2, fun f id nx => bif Nat.beq f 122 then (bif Nat.beq id 0 then some (pprs_L0_lc x0) else none) else none, fun f => false, noFacts, fun _ => 0⟩ : Cfg Try.prog)) noFacts_ok (n := 30) (f := 122) pprs_O pprs_rd rfl (by kernel_rfl) h
noncomputable def pprs_v (x0 : List (List Ct)) : List (List Ct) := ((pprs_L0_v x0).snd)
theorem pprs_spec (x0 : List (List Ct)) (h : (pprs_L0_p x0) = true) : pprs_res x0 = some (pprs_v x0) := by
  simp only [pprs_res, pprs_v, h, cond_true]
noncomputable def pprs_m (args : List RV) (hp : Hp) : Option ((List (List Ct)) × List Nat) := match args with
  | [.sv (.one (.ext i0))] => (match gridAt hp i0 [.int .u8] with
    | some x0 => some (x0, [i0])
    | _ => none)
  | _ => none
noncomputable def pprs_con : Con Try.prog := conX Try.prog 122 pprs_m 1 (fun x => [.sv (.one (.ext 0))]) (fun x => [(0, .grid [.int .u8] x)]) (fun x => some (pprs_L0_p x)) (fun x => pprs_O (pprs_v x))
  (by
    intro args hp x r h
    unfold pprs_m at h
    split at h
    · split at h
      · rename_i g0
        cases h
        refine ⟨rfl, fun nx => ⟨rfl, ?_, ?_⟩⟩
        · intro i hi
          simp only [List.mem_cons, List.not_mem_nil, or_false] at hi
          rcases hi with rfl
          · exact ⟨_, List.mem_of_getElem? (i := 0) rfl, .inl (by simp [RV.ids, SV.ids, CV.ids])⟩
        · intro id o0 ho
          have := hlook_mem ho
          simp only [List.mem_cons, Prod.mk.injEq, List.not_mem_nil, or_false] at this
          rcases this with ⟨rfl, rfl⟩
          · exact ⟨_, gridAt_spec g0, rfl⟩
      · cases h
    · cases h)
  (fun x h => ⟨rfl, rfl, pprs_tree (pprs_spec x (h _ rfl))⟩)
noncomputable def consPack3 : List (Con Try.prog) := [pprs_con.freezeR.freezeO] ++ consPack2
end Go.Proofs.Ytcpbiijegbbafaa
