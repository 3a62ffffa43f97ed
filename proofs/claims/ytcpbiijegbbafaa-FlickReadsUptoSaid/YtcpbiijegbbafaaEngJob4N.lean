/- A point that is laid, as the document has it. No condition. -/
import Derived.Test.YtcpbiijegbbafaaEngJob3N
set_option linter.unusedVariables false
set_option linter.unusedSimpArgs false
namespace Go.Proofs.Ytcpbiijegbbafaa
open Go.RowKit

noncomputable def rve7_O (v : List (List Ct)) : Out := ⟨.sv (.one (.ext 9)), [(9, .row ([Sh.int IntKind.u8]) 5 v)], 11, []⟩
noncomputable def rve7_rd (out : Out) : Option (List (List Ct)) := some (hpL' out.up 9)
noncomputable def rve7_c15973671 (x0 : List (List Ct)) (w0 : Int) : List (List Ct) := rnm_v x0 (IntKind.u64.wrap w0) (5 : Int)
noncomputable def rve7_c15789770 (x0 : List (List Ct)) (w0 : Int) (w1 : Int) : List (List Ct) := rnm_v (rve7_c15973671 x0 w0) (IntKind.u64.wrap w1) (5 : Int)
noncomputable def rve7_c81561684 (x0 : List (List Ct)) (w0 w1 w2 : Int) : List (List Ct) := rnm_v (rve7_c15789770 x0 w0 w1) (IntKind.u64.wrap w2) (5 : Int)
noncomputable def rve7_res (x0 : List (List Ct)) (w0 w1 w2 : Int) : Option (List (List Ct)) := bif ((rnm_res x0 (IntKind.u64.wrap w0) (5 : Int)).isSome) then bif ((rnm_res (rve7_c15973671 x0 w0) (IntKind.u64.wrap w1) (5 : Int)).isSome) then bif ((rnm_res (rve7_c15789770 x0 w0 w1) (IntKind.u64.wrap w2) (5 : Int)).isSome) then some (rve7_c81561684 x0 w0 w1 w2) else none else none else none
set_option maxRecDepth 100000 in
theorem rve7_tree {x0 : List (List Ct)} {w0 w1 w2 : Int} {v : List (List Ct)} (h : rve7_res x0 w0 w1 w2 = some v) : CallOk Try.prog 67 [.sv (.one (.ext 0)), .sv (.agg [.val false (.int .i64 w0), .val false (.int .i64 w1), .val false (.int .i64 w2)])] [(0, .grid [.int .u8] x0)] 1 (rve7_O v) :=
  eng_tree (C := (⟨consJob3N, fun _ _ _ => none, fun f => false, noFacts, fun _ => 0⟩ : Cfg Try.prog)) noFacts_ok (n := 30) (f := 67) rve7_O rve7_rd rfl (by kernel_rfl) h
noncomputable def rve7_v (x0 : List (List Ct)) (w0 w1 w2 : Int) : List (List Ct) := (rve7_res x0 w0 w1 w2).getD default
theorem rve7_spec (x0 : List (List Ct)) (w0 w1 w2 : Int) (h : ((rve7_res x0 w0 w1 w2).isSome) = true) : rve7_res x0 w0 w1 w2 = some (rve7_v x0 w0 w1 w2) := opt_get h
noncomputable def rve7_m (args : List RV) (hp : Hp) : Option ((List (List Ct) × Int × Int × Int) × List Nat) := match args with
  | [.sv (.one (.ext i0)), .sv (.agg [.val _ (.int .i64 w0), .val _ (.int .i64 w1), .val _ (.int .i64 w2)])] => (match gridAt hp i0 [.int .u8] with
    | some x0 => some ((x0, w0, w1, w2), [i0])
    | _ => none)
  | _ => none
noncomputable def rve7_con : Con Try.prog := conX Try.prog 67 rve7_m 1 (fun x => [.sv (.one (.ext 0)), .sv (.agg [.val false (.int .i64 x.2.1), .val false (.int .i64 x.2.2.1), .val false (.int .i64 x.2.2.2)])]) (fun x => [(0, .grid [.int .u8] x.1)]) (fun x => some ((rve7_res x.1 x.2.1 x.2.2.1 x.2.2.2).isSome)) (fun x => rve7_O (rve7_v x.1 x.2.1 x.2.2.1 x.2.2.2))
  (by
    intro args hp x r h
    unfold rve7_m at h
    split at h
    · split at h
      · rename_i g0
        cases h
        refine ⟨rfl, fun nx => ⟨rfl, ?_, ?_⟩⟩
        · intro i hi
          simp only [List.mem_cons, List.not_mem_nil, or_false] at hi
          rcases hi with rfl
          · exact ⟨_, List.mem_of_getElem? (i := 0) rfl, .inl (by simp [RV.ids, SV.ids, CV.ids])⟩
        · intro id o0 ho
          have := hlook_mem ho
          simp only [List.mem_cons, Prod.mk.injEq, List.not_mem_nil, or_false] at this
          rcases this with ⟨rfl, rfl⟩
          · exact ⟨_, gridAt_spec g0, rfl⟩
      · cases h
    · cases h)
  (fun x h => ⟨rfl, rfl, rve7_tree (rve7_spec x.1 x.2.1 x.2.2.1 x.2.2.2 (h _ rfl))⟩)
noncomputable def consJob4N : List (Con Try.prog) := [rve7_con.freezeR] ++ consJob3N
end Go.Proofs.Ytcpbiijegbbafaa
