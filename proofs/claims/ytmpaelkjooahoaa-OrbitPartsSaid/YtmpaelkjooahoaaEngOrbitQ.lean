/- The place of a time. No condition. -/
import Derived.Test.YtmpaelkjooahoaaEngOrbitP
set_option linter.unusedVariables false
set_option linter.unusedSimpArgs false
namespace Go.Proofs.Ytmpaelkjooahoaa
open Go.RowKit

noncomputable def tpl_O (v : Int) : Out := ⟨.sv (.one (.val false (.int .i64 v))), [], 9, []⟩
noncomputable def tpl_rd (out : Out) : Option (Int) := some (rI (rvC out.v 0 0))
noncomputable def tpl_res (x0_1 : List (List Ct)) (x1 : Int) : Option (Int) := bif ((bsf_res x0_1 x1).isSome) then bif ((bsf_v x0_1 x1).snd) then (some ((bsf_v x0_1 x1).fst)) else some (IntKind.i64.wrap ((bsf_v x0_1 x1).fst - (1 : Int))) else none
set_option maxRecDepth 100000 in
theorem tpl_tree {x0_0 : Int} {x0_1 : List (List Ct)} {x1 : Int} {v : Int} (h : tpl_res x0_1 x1 = some v) : CallOk Try.prog 90 [.sv (.agg [.val false (.int .i64 x0_0), .ext 0]), .sv (.one (.val false (.int .i64 x1)))] [(0, .grid [.int .i64, .int .i64, .int .i64, .int .i64] x0_1)] 1 (tpl_O v) :=
  eng_tree (C := (⟨consOrbitP, fun _ _ _ => none, fun f => false, noFacts, fun _ => 0⟩ : Cfg Try.prog)) noFacts_ok (n := 30) (f := 90) tpl_O tpl_rd rfl (by kernel_rfl) h
noncomputable def tpl_v (x0_1 : List (List Ct)) (x1 : Int) : Int := (tpl_res x0_1 x1).getD default
theorem tpl_spec (x0_1 : List (List Ct)) (x1 : Int) (h : ((tpl_res x0_1 x1).isSome) = true) : tpl_res x0_1 x1 = some (tpl_v x0_1 x1) := opt_get h
noncomputable def tpl_m (args : List RV) (hp : Hp) : Option ((Int × List (List Ct) × Int) × List Nat) := match args with
  | [.sv (.agg [.val _ (.int .i64 x0_0), .ext i0]), .sv (.one (.val _ (.int .i64 x1)))] => (match gridAt hp i0 [.int .i64, .int .i64, .int .i64, .int .i64] with
    | some x0_1 => some ((x0_0, x0_1, x1), [i0])
    | _ => none)
  | _ => none
noncomputable def tpl_con : Con Try.prog := conX Try.prog 90 tpl_m 1 (fun x => [.sv (.agg [.val false (.int .i64 x.1), .ext 0]), .sv (.one (.val false (.int .i64 x.2.2)))]) (fun x => [(0, .grid [.int .i64, .int .i64, .int .i64, .int .i64] x.2.1)]) (fun x => some ((tpl_res x.2.1 x.2.2).isSome)) (fun x => tpl_O (tpl_v x.2.1 x.2.2))
  (by
    intro args hp x r h
    unfold tpl_m at h
    split at h
    · split at h
      · rename_i g0
        cases h
        refine ⟨rfl, fun nx => ⟨rfl, ?_, ?_⟩⟩
        · intro i hi
          simp only [List.mem_cons, List.not_mem_nil, or_false] at hi
          rcases hi with rfl
          · exact ⟨_, List.mem_of_getElem? (i := 0) rfl, .inl (by simp [RV.ids, SV.ids, CV.ids])⟩
        · intro id o0 ho
          have := hlook_mem ho
          simp only [List.mem_cons, Prod.mk.injEq, List.not_mem_nil, or_false] at this
          rcases this with ⟨rfl, rfl⟩
          · exact ⟨_, gridAt_spec g0, rfl⟩
      · cases h
    · cases h)
  (fun x h => ⟨rfl, rfl, tpl_tree (tpl_spec x.2.1 x.2.2 (h _ rfl))⟩)
noncomputable def consOrbitQ : List (Con Try.prog) := [tpl_con.freeze] ++ consOrbitP
end Go.Proofs.Ytmpaelkjooahoaa
