/- The table of a curve, as a contract. No condition. -/
import Derived.Test.YtonlllijdbjkaaaGtS
set_option linter.unusedVariables false
set_option linter.unusedSimpArgs false
namespace Go.Proofs.Ytonlllijdbjkaaa
open Go.RowKit

noncomputable def gmk_v (x0 : List (List Ct)) : List (List Ct) := makeT x0
theorem gmk_spec (x0 : List (List Ct)) : gmk_res x0 = some (gmk_v x0) := gmk_some _
noncomputable def gmk_m (args : List RV) (hp : Hp) : Option ((List (List Ct)) × List Nat) := match args with
  | [.sv (.one (.ext i0))] => (match gridAt hp i0 [.int .i64, .int .i64] with
    | some x0 => some (x0, [i0])
    | _ => none)
  | _ => none
noncomputable def gmk_con : Con Try.prog := conX Try.prog 23 gmk_m 1 (fun x => [.sv (.one (.ext 0))]) (fun x => [(0, .grid [.int .i64, .int .i64] x)]) (fun x => none) (fun x => gmk_O (gmk_v x))
  (by
    intro args hp x r h
    unfold gmk_m at h
    split at h
    · split at h
      · rename_i g0
        cases h
        refine ⟨rfl, fun nx => ⟨rfl, ?_, ?_⟩⟩
        · intro i hi
          simp only [List.mem_cons, List.not_mem_nil, or_false] at hi
          rcases hi with rfl
          · exact ⟨_, List.mem_of_getElem? (i := 0) rfl, .inl (by simp [RV.ids, SV.ids, CV.ids])⟩
        · intro id o0 ho
          have := hlook_mem ho
          simp only [List.mem_cons, Prod.mk.injEq, List.not_mem_nil, or_false] at this
          rcases this with ⟨rfl, rfl⟩
          · exact ⟨_, gridAt_spec g0, rfl⟩
      · cases h
    · cases h)
  (fun x h => ⟨rfl, rfl, gmk_tree (gmk_spec x)⟩)

noncomputable def rmk_v (x0 : List (List Ct)) : List (List Ct) := makeT x0
theorem rmk_spec (x0 : List (List Ct)) : rmk_res x0 = some (rmk_v x0) := rmk_some _
noncomputable def rmk_m (args : List RV) (hp : Hp) : Option ((List (List Ct)) × List Nat) := match args with
  | [.sv (.one (.ext i0))] => (match gridAt hp i0 [.int .i64, .int .i64] with
    | some x0 => some (x0, [i0])
    | _ => none)
  | _ => none
noncomputable def rmk_con : Con Try.prog := conX Try.prog 24 rmk_m 1 (fun x => [.sv (.one (.ext 0))]) (fun x => [(0, .grid [.int .i64, .int .i64] x)]) (fun x => none) (fun x => rmk_O (rmk_v x))
  (by
    intro args hp x r h
    unfold rmk_m at h
    split at h
    · split at h
      · rename_i g0
        cases h
        refine ⟨rfl, fun nx => ⟨rfl, ?_, ?_⟩⟩
        · intro i hi
          simp only [List.mem_cons, List.not_mem_nil, or_false] at hi
          rcases hi with rfl
          · exact ⟨_, List.mem_of_getElem? (i := 0) rfl, .inl (by simp [RV.ids, SV.ids, CV.ids])⟩
        · intro id o0 ho
          have := hlook_mem ho
          simp only [List.mem_cons, Prod.mk.injEq, List.not_mem_nil, or_false] at this
          rcases this with ⟨rfl, rfl⟩
          · exact ⟨_, gridAt_spec g0, rfl⟩
      · cases h
    · cases h)
  (fun x h => ⟨rfl, rfl, rmk_tree (rmk_spec x)⟩)
noncomputable def consGtB : List (Con Try.prog) := [gmk_con.freeze, rmk_con.freeze] ++ consGt7
end Go.Proofs.Ytonlllijdbjkaaa
