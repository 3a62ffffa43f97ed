/- A blob that is laid, as the document has it. No condition. -/
import Derived.Test.YtcpbiijegbbafaaEngFk1
import Derived.Test.YtcpbiijegbbafaaEngJob3N
set_option linter.unusedVariables false
set_option linter.unusedSimpArgs false
namespace Go.Proofs.Ytcpbiijegbbafaa
open Go.RowKit

noncomputable def rbo_O (v : List (List Ct)) : Out := ⟨.sv (.one (.ext 5)), [(5, .row ([Sh.int IntKind.u8]) 5 v)], 6, []⟩
noncomputable def rbo_rd (out : Out) : Option (List (List Ct)) := some (hpL' out.up 5)
noncomputable def rbo_c89558597 (x0 : List (List Ct)) (x1 : List (List Ct)) : List (List Ct) := rnm_v x0 (IntKind.u64.wrap (↑x1.length : Int)) (4 : Int)
noncomputable def rbo_res (x0 : List (List Ct)) (x1 : List (List Ct)) : Option (List (List Ct)) := bif ((rnm_res x0 (IntKind.u64.wrap (↑x1.length : Int)) (4 : Int)).isSome) then bif (decide ((rbo_c89558597 x0 x1).length + x1.length ≤ 9223372036854775807 ∧ ((rbo_c89558597 x0 x1).length + x1.length) * 1 ≤ 140737488355328)) then some (rbo_c89558597 x0 x1 ++ x1) else none else none
set_option maxRecDepth 100000 in
theorem rbo_tree {x0 x1 v : List (List Ct)} (h : rbo_res x0 x1 = some v) : CallOk Try.prog 88 [.sv (.one (.ext 0)), .sv (.one (.ext 1))] [(0, .grid [.int .u8] x0), (1, .grid [.int .u8] x1)] 2 (rbo_O v) :=
  eng_tree (C := (⟨consJob3N, fun _ _ _ => none, fun f => false, noFacts, fun _ => 0⟩ : Cfg Try.prog)) noFacts_ok (n := 30) (f := 88) rbo_O rbo_rd rfl (by kernel_rfl) h
noncomputable def rbo_v (x0 : List (List Ct)) (x1 : List (List Ct)) : List (List Ct) := (rbo_res x0 x1).getD default
theorem rbo_spec (x0 : List (List Ct)) (x1 : List (List Ct)) (h : ((rbo_res x0 x1).isSome) = true) : rbo_res x0 x1 = some (rbo_v x0 x1) := opt_get h
noncomputable def rbo_m (args : List RV) (hp : Hp) : Option ((List (List Ct) × List (List Ct)) × List Nat) := match args with
  | [.sv (.one (.ext i0)), .sv (.one (.ext i1))] => (match gridAt hp i0 [.int .u8], gridAt hp i1 [.int .u8] with
    | some x0, some x1 => some ((x0, x1), [i0, i1])
    | _, _ => none)
  | _ => none
noncomputable def rbo_con : Con Try.prog := conX Try.prog 88 rbo_m 2 (fun x => [.sv (.one (.ext 0)), .sv (.one (.ext 1))]) (fun x => [(0, .grid [.int .u8] x.1), (1, .grid [.int .u8] x.2)]) (fun x => some ((rbo_res x.1 x.2).isSome)) (fun x => rbo_O (rbo_v x.1 x.2))
  (by
    intro args hp x r h
    unfold rbo_m at h
    split at h
    · split at h
      · rename_i g0 g1
        cases h
        refine ⟨rfl, fun nx => ⟨rfl, ?_, ?_⟩⟩
        · intro i hi
          simp only [List.mem_cons, List.not_mem_nil, or_false] at hi
          rcases hi with rfl | rfl
          · exact ⟨_, List.mem_of_getElem? (i := 0) rfl, .inl (by simp [RV.ids, SV.ids, CV.ids])⟩
          · exact ⟨_, List.mem_of_getElem? (i := 1) rfl, .inl (by simp [RV.ids, SV.ids, CV.ids])⟩
        · intro id o0 ho
          have := hlook_mem ho
          simp only [List.mem_cons, Prod.mk.injEq, List.not_mem_nil, or_false] at this
          rcases this with ⟨rfl, rfl⟩ | ⟨rfl, rfl⟩
          · exact ⟨_, gridAt_spec g0, rfl⟩
          · exact ⟨_, gridAt_spec g1, rfl⟩
      · cases h
    · cases h)
  (fun x h => ⟨rfl, rfl, rbo_tree (rbo_spec x.1 x.2 (h _ rfl))⟩)
noncomputable def consFk8 : List (Con Try.prog) := [rbo_con.freezeR] ++ consJob3N ++ consFk1
end Go.Proofs.Ytcpbiijegbbafaa
