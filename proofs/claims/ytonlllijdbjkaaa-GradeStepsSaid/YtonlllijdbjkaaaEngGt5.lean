/- The table that stretches a picture's bytes, as a contract. No condition. -/
import Derived.Test.YtonlllijdbjkaaaGtQ
set_option linter.unusedVariables false
set_option linter.unusedSimpArgs false
namespace Go.Proofs.Ytonlllijdbjkaaa
open Go.RowKit

noncomputable def spr_v (x0_0 : Int) (x0_1 : Int) (x0_2 : List (List Ct)) : List (List Ct) × Int := (bif picB x0_0 x0_1 x0_2 then (sprT x0_2, 0) else (List.replicate 256 [.i 0], 1))
theorem spr_spec (x0_0 : Int) (x0_1 : Int) (x0_2 : List (List Ct)) (h : (byteB x0_2 3 && decide (x0_2.length ≤ 5000)) = true) : spr_res x0_0 x0_1 x0_2 = some (spr_v x0_0 x0_1 x0_2) := spr_some h
noncomputable def spr_m (args : List RV) (hp : Hp) : Option ((Int × Int × List (List Ct)) × List Nat) := match args with
  | [.sv (.agg [.val _ (.int .i64 x0_0), .val _ (.int .i64 x0_1), .ext i0])] => (match gridAt hp i0 [.int .u8, .int .u8, .int .u8] with
    | some x0_2 => some ((x0_0, x0_1, x0_2), [i0])
    | _ => none)
  | _ => none
noncomputable def spr_con : Con Try.prog := conX Try.prog 25 spr_m 1 (fun x => [.sv (.agg [.val false (.int .i64 x.1), .val false (.int .i64 x.2.1), .ext 0])]) (fun x => [(0, .grid [.int .u8, .int .u8, .int .u8] x.2.2)]) (fun x => some (byteB x.2.2 3 && decide (x.2.2.length ≤ 5000))) (fun x => spr_O (spr_v x.1 x.2.1 x.2.2))
  (by
    intro args hp x r h
    unfold spr_m at h
    split at h
    · split at h
      · rename_i g0
        cases h
        refine ⟨rfl, fun nx => ⟨rfl, ?_, ?_⟩⟩
        · intro i hi
          simp only [List.mem_cons, List.not_mem_nil, or_false] at hi
          rcases hi with rfl
          · exact ⟨_, List.mem_of_getElem? (i := 0) rfl, .inl (by simp [RV.ids, SV.ids, CV.ids])⟩
        · intro id o0 ho
          have := hlook_mem ho
          simp only [List.mem_cons, Prod.mk.injEq, List.not_mem_nil, or_false] at this
          rcases this with ⟨rfl, rfl⟩
          · exact ⟨_, gridAt_spec g0, rfl⟩
      · cases h
    · cases h)
  (fun x h => ⟨rfl, rfl, spr_tree (spr_spec x.1 x.2.1 x.2.2 (h _ rfl))⟩)
end Go.Proofs.Ytonlllijdbjkaaa
