/- Tables and pictures, as contracts. No condition. -/
import Derived.Test.YtonlllijdbjkaaaGtR
import Derived.Test.YtonlllijdbjkaaaEngGrade4
set_option linter.unusedVariables false
set_option linter.unusedSimpArgs false
namespace Go.Proofs.Ytonlllijdbjkaaa
open Go.RowKit

noncomputable def neg_v  : Unit := ()
theorem neg_spec  : neg_res  = some (neg_v ) := neg_some
noncomputable def neg_m (args : List RV) (hp : Hp) : Option ((Unit) × List Nat) := match args with
  | [] => some ((), [])
  | _ => none
noncomputable def neg_con : Con Try.prog := conX Try.prog 16 neg_m 0 (fun x => []) (fun x => []) (fun x => none) (fun x => neg_O (neg_v ))
  (by
    intro args hp x r h
    unfold neg_m at h
    split at h
    · cases h
      exact ⟨rfl, fun nx => ⟨rfl, (fun i hi => by cases hi), fun id o0 ho => by simp [hlook] at ho⟩⟩
    · cases h)
  (fun x h => ⟨rfl, rfl, neg_tree (neg_spec )⟩)

noncomputable def then_v (x0 : List (List Ct)) (x1 : List (List Ct)) : List (List Ct) := thenT x0 x1
theorem then_spec (x0 : List (List Ct)) (x1 : List (List Ct)) (h : (decide (x0.length = 256) && decide (x1.length = 256) && byteB x0 1) = true) : then_res x0 x1 = some (then_v x0 x1) := then_some' h
noncomputable def then_as : List ASh := [.one (.tab .u8 256), .one (.tab .u8 256)]
noncomputable def then_con : Con Try.prog := conS Try.prog 17 then_as (fun x => some (decide ((x.getD 0 (.i 0)).rows.length = 256) && decide ((x.getD 1 (.i 0)).rows.length = 256) && byteB (x.getD 0 (.i 0)).rows 1)) (fun x => then_O (then_v (x.getD 0 (.i 0)).rows (x.getD 1 (.i 0)).rows))
  (fun x h => ⟨by kernel_rfl, by kernel_rfl, Eq.mp (by kernel_rfl) (@then_tree ((x.getD 0 (.i 0)).rows) ((x.getD 1 (.i 0)).rows) _ (then_spec ((x.getD 0 (.i 0)).rows) ((x.getD 1 (.i 0)).rows) (h _ rfl)))⟩)

noncomputable def tap_v (x0 : List (List Ct)) (x1_0 : Int) (x1_1 : Int) (x1_2 : List (List Ct)) : Int × Int × Int × List (List Ct) := (bif picB x1_0 x1_1 x1_2 then (x1_0, x1_1, 0, applyT x0 x1_2) else (0, 0, 1, []))
theorem tap_spec (x0 : List (List Ct)) (x1_0 : Int) (x1_1 : Int) (x1_2 : List (List Ct)) (h : (decide (x0.length = 256) && byteB x1_2 3 && decide (x1_2.length ≤ 5000)) = true) : tap_res x0 x1_0 x1_1 x1_2 = some (tap_v x0 x1_0 x1_1 x1_2) := tap_some h
noncomputable def tap_as : List ASh := [.one (.tab .u8 256), .agg [.int .i64, .int .i64, .grid [.int .u8, .int .u8, .int .u8]]]
noncomputable def tap_con : Con Try.prog := conS Try.prog 19 tap_as (fun x => some (decide ((x.getD 0 (.i 0)).rows.length = 256) && byteB (x.getD 3 (.i 0)).rows 3 && decide ((x.getD 3 (.i 0)).rows.length ≤ 5000))) (fun x => tap_O (tap_v (x.getD 0 (.i 0)).rows (x.getD 1 (.i 0)).int (x.getD 2 (.i 0)).int (x.getD 3 (.i 0)).rows))
  (fun x h => ⟨by kernel_rfl, by kernel_rfl, Eq.mp (by kernel_rfl) (@tap_tree ((x.getD 0 (.i 0)).rows) ((x.getD 1 (.i 0)).int) ((x.getD 2 (.i 0)).int) ((x.getD 3 (.i 0)).rows) _ (tap_spec ((x.getD 0 (.i 0)).rows) ((x.getD 1 (.i 0)).int) ((x.getD 2 (.i 0)).int) ((x.getD 3 (.i 0)).rows) (h _ rfl)))⟩)

noncomputable def rap_v (x0 : List (List Ct)) (x1_0 : Int) (x1_1 : Int) (x1_2 : List (List Ct)) : Int × Int × List (List Ct) := (x1_0, x1_1, applyT x0 x1_2)
theorem rap_spec (x0 : List (List Ct)) (x1_0 : Int) (x1_1 : Int) (x1_2 : List (List Ct)) (h : (decide (x0.length = 256) && byteB x1_2 3 && decide (x1_2.length ≤ 5000)) = true) : rap_res x0 x1_0 x1_1 x1_2 = some (rap_v x0 x1_0 x1_1 x1_2) := rap_some h
noncomputable def rap_as : List ASh := [.one (.tab .u8 256), .agg [.int .i64, .int .i64, .grid [.int .u8, .int .u8, .int .u8]]]
noncomputable def rap_con : Con Try.prog := conS Try.prog 26 rap_as (fun x => some (decide ((x.getD 0 (.i 0)).rows.length = 256) && byteB (x.getD 3 (.i 0)).rows 3 && decide ((x.getD 3 (.i 0)).rows.length ≤ 5000))) (fun x => rap_O (rap_v (x.getD 0 (.i 0)).rows (x.getD 1 (.i 0)).int (x.getD 2 (.i 0)).int (x.getD 3 (.i 0)).rows))
  (fun x h => ⟨by kernel_rfl, by kernel_rfl, Eq.mp (by kernel_rfl) (@rap_tree ((x.getD 0 (.i 0)).rows) ((x.getD 1 (.i 0)).int) ((x.getD 2 (.i 0)).int) ((x.getD 3 (.i 0)).rows) _ (rap_spec ((x.getD 0 (.i 0)).rows) ((x.getD 1 (.i 0)).int) ((x.getD 2 (.i 0)).int) ((x.getD 3 (.i 0)).rows) (h _ rfl)))⟩)

noncomputable def rsp_v (x0_2 : List (List Ct)) : List (List Ct) := sprT x0_2
theorem rsp_spec (x0_2 : List (List Ct)) (h : (byteB x0_2 3 && decide (0 < x0_2.length) && decide (x0_2.length ≤ 5000)) = true) : rsp_res x0_2 = some (rsp_v x0_2) := rsp_some h
noncomputable def rsp_m (args : List RV) (hp : Hp) : Option ((Int × Int × List (List Ct)) × List Nat) := match args with
  | [.sv (.agg [.val _ (.int .i64 x0_0), .val _ (.int .i64 x0_1), .ext i0])] => (match gridAt hp i0 [.int .u8, .int .u8, .int .u8] with
    | some x0_2 => some ((x0_0, x0_1, x0_2), [i0])
    | _ => none)
  | _ => none
noncomputable def rsp_con : Con Try.prog := conX Try.prog 27 rsp_m 1 (fun x => [.sv (.agg [.val false (.int .i64 x.1), .val false (.int .i64 x.2.1), .ext 0])]) (fun x => [(0, .grid [.int .u8, .int .u8, .int .u8] x.2.2)]) (fun x => some (byteB x.2.2 3 && decide (0 < x.2.2.length) && decide (x.2.2.length ≤ 5000))) (fun x => rsp_O (rsp_v x.2.2))
  (by
    intro args hp x r h
    unfold rsp_m at h
    split at h
    · split at h
      · rename_i g0
        cases h
        refine ⟨rfl, fun nx => ⟨rfl, ?_, ?_⟩⟩
        · intro i hi
          simp only [List.mem_cons, List.not_mem_nil, or_false] at hi
          rcases hi with rfl
          · exact ⟨_, List.mem_of_getElem? (i := 0) rfl, .inl (by simp [RV.ids, SV.ids, CV.ids])⟩
        · intro id o0 ho
          have := hlook_mem ho
          simp only [List.mem_cons, Prod.mk.injEq, List.not_mem_nil, or_false] at this
          rcases this with ⟨rfl, rfl⟩
          · exact ⟨_, gridAt_spec g0, rfl⟩
      · cases h
    · cases h)
  (fun x h => ⟨rfl, rfl, rsp_tree (rsp_spec x.2.2 (h _ rfl))⟩)

noncomputable def psa_v (x0_0 : Int) (x0_1 : Int) (x0_2 : List (List Ct)) (x1_0 : Int) (x1_1 : Int) (x1_2 : List (List Ct)) : Bool := psaS x0_0 x0_1 x0_2 x1_0 x1_1 x1_2
theorem psa_spec (x0_0 : Int) (x0_1 : Int) (x0_2 : List (List Ct)) (x1_0 : Int) (x1_1 : Int) (x1_2 : List (List Ct)) (h : (decide (x0_2.length < 9223372036854775807)) = true) : psa_res x0_0 x0_1 x0_2 x1_0 x1_1 x1_2 = some (psa_v x0_0 x0_1 x0_2 x1_0 x1_1 x1_2) := psa_some _ _ _ _ _ _ (of_decide_eq_true h)
noncomputable def psa_m (args : List RV) (hp : Hp) : Option ((Int × Int × List (List Ct) × Int × Int × List (List Ct)) × List Nat) := match args with
  | [.sv (.agg [.val _ (.int .i64 x0_0), .val _ (.int .i64 x0_1), .ext i0]), .sv (.agg [.val _ (.int .i64 x1_0), .val _ (.int .i64 x1_1), .ext i1])] => (match gridAt hp i0 [.int .u8, .int .u8, .int .u8], gridAt hp i1 [.int .u8, .int .u8, .int .u8] with
    | some x0_2, some x1_2 => some ((x0_0, x0_1, x0_2, x1_0, x1_1, x1_2), [i0, i1])
    | _, _ => none)
  | _ => none
noncomputable def psa_con : Con Try.prog := conX Try.prog 21 psa_m 2 (fun x => [.sv (.agg [.val false (.int .i64 x.1), .val false (.int .i64 x.2.1), .ext 0]), .sv (.agg [.val false (.int .i64 x.2.2.2.1), .val false (.int .i64 x.2.2.2.2.1), .ext 1])]) (fun x => [(0, .grid [.int .u8, .int .u8, .int .u8] x.2.2.1), (1, .grid [.int .u8, .int .u8, .int .u8] x.2.2.2.2.2)]) (fun x => some (decide (x.2.2.1.length < 9223372036854775807))) (fun x => psa_O (psa_v x.1 x.2.1 x.2.2.1 x.2.2.2.1 x.2.2.2.2.1 x.2.2.2.2.2))
  (by
    intro args hp x r h
    unfold psa_m at h
    split at h
    · split at h
      · rename_i g0 g1
        cases h
        refine ⟨rfl, fun nx => ⟨rfl, ?_, ?_⟩⟩
        · intro i hi
          simp only [List.mem_cons, List.not_mem_nil, or_false] at hi
          rcases hi with rfl | rfl
          · exact ⟨_, List.mem_of_getElem? (i := 0) rfl, .inl (by simp [RV.ids, SV.ids, CV.ids])⟩
          · exact ⟨_, List.mem_of_getElem? (i := 1) rfl, .inl (by simp [RV.ids, SV.ids, CV.ids])⟩
        · intro id o0 ho
          have := hlook_mem ho
          simp only [List.mem_cons, Prod.mk.injEq, List.not_mem_nil, or_false] at this
          rcases this with ⟨rfl, rfl⟩ | ⟨rfl, rfl⟩
          · exact ⟨_, gridAt_spec g0, rfl⟩
          · exact ⟨_, gridAt_spec g1, rfl⟩
      · cases h
    · cases h)
  (fun x h => ⟨rfl, rfl, psa_tree (psa_spec x.1 x.2.1 x.2.2.1 x.2.2.2.1 x.2.2.2.2.1 x.2.2.2.2.2 (h _ rfl))⟩)
noncomputable def consGt7 : List (Con Try.prog) := [neg_con, then_con, tap_con.freezeR.freezeO, rap_con.freezeR.freezeO, rsp_con.freeze, psa_con.freeze, spr_con.freeze] ++ consGrade4
end Go.Proofs.Ytonlllijdbjkaaa
