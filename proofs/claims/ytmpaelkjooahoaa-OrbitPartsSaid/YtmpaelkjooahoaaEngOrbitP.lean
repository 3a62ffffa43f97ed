/- Places. No condition. -/
import Derived.Test.YtmpaelkjooahoaaEngOrbit6
set_option linter.unusedVariables false
set_option linter.unusedSimpArgs false
namespace Go.Proofs.Ytmpaelkjooahoaa
open Go.RowKit

noncomputable def rpl_L0_S (x0_0 : Int) (x0_1 : List (List Ct)) (x1 : Int) (v : Int × Int) : St := ⟨[.sv (.agg [.q x0_0, .ext 0]), .o (.q x1), .o (.ptr 1 0), .d, .o (.val true (.int .i64 0)), .o (.q v.1), .o (.q v.2), .d, .d, .d, .d, .d, .d, .d, .d, .d, .d, .d, .d, .d, .d, .d, .d, .d], [(0, .grid ([Sh.int IntKind.i64, Sh.int IntKind.i64, Sh.int IntKind.i64, Sh.int IntKind.i64]) x0_1), (1, .cells [.q x0_0, .ext 0] 39)], 2, []⟩
noncomputable def rpl_L0_T (x0_0 : Int) (x0_1 : List (List Ct)) (x1 : Int) (v : Int × Int) : Ex × St := ((.exit 0), ⟨(rpl_L0_S x0_0 x0_1 x1 v).fr, (rpl_L0_S x0_0 x0_1 x1 v).hp, 3, []⟩)
noncomputable def rpl_L0_rd (ex : Ex) (s : St) : Option ((Int × Int) ⊕ (Int × Int)) × List (Nat × Option Nat) := match ex with
  | .normal => (some (.inl (rI (frC s 5 0), rI (frC s 6 0))), [(1, some 1)])
  | .exit i => bif Nat.beq i 0 then (some (.inr (rI (frC s 5 0), rI (frC s 6 0))), [(1, some 1)]) else (none, [])
  | _ => (none, [])
noncomputable def rpl_L0_step (x0_1 : List (List Ct)) (x1 : Int) : (Int × Int) → Option ((Int × Int) ⊕ (Int × Int)) := fun v => match v with
  | (vi0, vi1) => bif (decide (vi1 < (↑x0_1.length : Int))) then (bif (decide ((0 : Int) ≤ vi1 ∧ vi1 < (↑x0_1.length : Int))) then some (.inl (bif decide ((rd x0_1 vi1.toNat 0).int ≤ x1) then vi1 else vi0, IntKind.i64.wrap (vi1 + (1 : Int)))) else none) else some (.inr (vi0, vi1))
noncomputable def rpl_L0_c : Code := loopC Try.prog 93 0
set_option maxRecDepth 100000 in
theorem rpl_L0_ok (x0_0 : Int) (x0_1 : List (List Ct)) (x1 : Int) : ∀ v, StepOk Try.prog 1 rpl_L0_c (rpl_L0_S x0_0 x0_1 x1) (rpl_L0_T x0_0 x0_1 x1) v (rpl_L0_step x0_1 x1 v) := fun v => match v with | (vi0, vi1) => eng_step (C := (⟨consOrbit6, fun _ _ _ => none, fun f => false, noFacts, fun _ => 4⟩ : Cfg Try.prog)) noFacts_ok (n := 30) (f := 93) rpl_L0_rd (fun _ => rfl) (by kernel_rfl)
noncomputable def rpl_L0_p (x0_1 : List (List Ct)) (x1 : Int) : Bool := (iter (rpl_L0_step x0_1 x1) (x0_1.length + 1) ((-1), 0)).isSome
noncomputable def rpl_L0_v (x0_1 : List (List Ct)) (x1 : Int) : Int × Int := loopRes (rpl_L0_step x0_1 x1) (x0_1.length + 1) ((-1), 0)
set_option maxRecDepth 100000 in
noncomputable def rpl_L0_lc (x0_0 : Int) (x0_1 : List (List Ct)) (x1 : Int) : LoopCon Try.prog := loopCon Try.prog 1 rpl_L0_c [(1, some 1)] (rpl_L0_S x0_0 x0_1 x1) (rpl_L0_T x0_0 x0_1 x1) 0 (rpl_L0_step x0_1 x1) (rpl_L0_ok x0_0 x0_1 x1) (x0_1.length + 1) ((-1), 0) (rpl_L0_p x0_1 x1) rfl (rpl_L0_v x0_1 x1) rfl
noncomputable def rpl_O (v : Int) : Out := ⟨.sv (.one (.val false (.int .i64 v))), [], 3, []⟩
noncomputable def rpl_rd (out : Out) : Option (Int) := some (rI (rvC out.v 0 0))
noncomputable def rpl_res (x0_1 : List (List Ct)) (x1 : Int) : Option (Int) := bif (rpl_L0_p x0_1 x1) then some ((rpl_L0_v x0_1 x1).fst) else none
set_option maxRecDepth 100000 in
theorem rpl_tree {x0_0 : Int} {x0_1 : List (List Ct)} {x1 : Int} {v : Int} (h : rpl_res x0_1 x1 = some v) : CallOk Try.prog 93 [.sv (.agg [.val false (.int .i64 x0_0), .ext 0]), .sv (.one (.val false (.int .i64 x1)))] [(0, .grid [.int .i64, .int .i64, .int .i64, .int .i64] x0_1)] 1 (rpl_O v) :=
  eng_tree (C := (⟨consOrbit6, fun f id nx => bif Nat.beq f 93 then (bif Nat.beq id 0 then some (rpl_L0_lc x0_0 x0_1 x1) else none) else none, fun f => false, noFacts, fun _ => 4⟩ : Cfg Try.prog)) noFacts_ok (n := 30) (f := 93) rpl_O rpl_rd rfl (by kernel_rfl) h
noncomputable def rpl_v (x0_1 : List (List Ct)) (x1 : Int) : Int := (rpl_res x0_1 x1).getD default
theorem rpl_spec (x0_1 : List (List Ct)) (x1 : Int) (h : ((rpl_res x0_1 x1).isSome) = true) : rpl_res x0_1 x1 = some (rpl_v x0_1 x1) := opt_get h
noncomputable def rpl_m (args : List RV) (hp : Hp) : Option ((Int × List (List Ct) × Int) × List Nat) := match args with
  | [.sv (.agg [.val _ (.int .i64 x0_0), .ext i0]), .sv (.one (.val _ (.int .i64 x1)))] => (match gridAt hp i0 [.int .i64, .int .i64, .int .i64, .int .i64] with
    | some x0_1 => some ((x0_0, x0_1, x1), [i0])
    | _ => none)
  | _ => none
noncomputable def rpl_con : Con Try.prog := conX Try.prog 93 rpl_m 1 (fun x => [.sv (.agg [.val false (.int .i64 x.1), .ext 0]), .sv (.one (.val false (.int .i64 x.2.2)))]) (fun x => [(0, .grid [.int .i64, .int .i64, .int .i64, .int .i64] x.2.1)]) (fun x => some ((rpl_res x.2.1 x.2.2).isSome)) (fun x => rpl_O (rpl_v x.2.1 x.2.2))
  (by
    intro args hp x r h
    unfold rpl_m at h
    split at h
    · split at h
      · rename_i g0
        cases h
        refine ⟨rfl, fun nx => ⟨rfl, ?_, ?_⟩⟩
        · intro i hi
          simp only [List.mem_cons, List.not_mem_nil, or_false] at hi
          rcases hi with rfl
          · exact ⟨_, List.mem_of_getElem? (i := 0) rfl, .inl (by simp [RV.ids, SV.ids, CV.ids])⟩
        · intro id o0 ho
          have := hlook_mem ho
          simp only [List.mem_cons, Prod.mk.injEq, List.not_mem_nil, or_false] at this
          rcases this with ⟨rfl, rfl⟩
          · exact ⟨_, gridAt_spec g0, rfl⟩
      · cases h
    · cases h)
  (fun x h => ⟨rfl, rfl, rpl_tree (rpl_spec x.2.1 x.2.2 (h _ rfl))⟩)

noncomputable def bsf_L0_S (x0 : List (List Ct)) (x1 : Int) (v : Int × Int) : St := ⟨[.o (.ext 0), .o (.q x1), .o (CV.fn 102 []), .d, .d, .d, .o (.val true (.int .i64 0)), .o (.val true (.bool false)), .o (.q (↑x0.length : Int)), .o (.q v.1), .o (.q v.2), .d, .o (.ext 0), .o (.q (↑x0.length : Int)), .o (.q (↑x0.length : Int)), .d, .d, .d, .d, .d, .d, .d, .d, .d, .d, .d, .d, .d, .d, .d, .d, .d, .d, .d, .d, .d, .d, .d, .d, .d, .d, .d, .d, .d, .d, .d, .d, .d, .d], [(0, .grid ([Sh.int IntKind.i64, Sh.int IntKind.i64, Sh.int IntKind.i64, Sh.int IntKind.i64]) x0)], 1, []⟩
noncomputable def bsf_L0_T (x0 : List (List Ct)) (x1 : Int) (v : Int × Int) : Ex × St := ((.exit 0), ⟨(bsf_L0_S x0 x1 v).fr, (bsf_L0_S x0 x1 v).hp, 2, []⟩)
noncomputable def bsf_L0_rd (ex : Ex) (s : St) : Option ((Int × Int) ⊕ (Int × Int)) × List (Nat × Option Nat) := match ex with
  | .normal => (some (.inl (rI (frC s 9 0), rI (frC s 10 0))), [])
  | .exit i => bif Nat.beq i 0 then (some (.inr (rI (frC s 9 0), rI (frC s 10 0))), []) else (none, [])
  | _ => (none, [])
noncomputable def bsf_L0_step (x0 : List (List Ct)) (x1 : Int) : (Int × Int) → Option ((Int × Int) ⊕ (Int × Int)) := fun v => match v with
  | (vi0, vi1) => bif (decide (vi0 < vi1)) then (bif (decide ((0 : Int) ≤ IntKind.i64.wrap ((IntKind.u64.wrap (IntKind.i64.wrap (vi0 + vi1))).fdiv ((2 : Int) ^ min (Int.toNat (1 : Int)) IntKind.u64.bits)) ∧ IntKind.i64.wrap ((IntKind.u64.wrap (IntKind.i64.wrap (vi0 + vi1))).fdiv ((2 : Int) ^ min (Int.toNat (1 : Int)) IntKind.u64.bits)) < (↑x0.length : Int))) then bif (decide ((rd x0 (IntKind.i64.wrap ((IntKind.u64.wrap (IntKind.i64.wrap (vi0 + vi1))).fdiv ((2 : Int) ^ min (Int.toNat (1 : Int)) IntKind.u64.bits))).toNat 0).int < x1)) then (some (.inl (IntKind.i64.wrap (IntKind.i64.wrap ((IntKind.u64.wrap (IntKind.i64.wrap (vi0 + vi1))).fdiv ((2 : Int) ^ min (Int.toNat (1 : Int)) IntKind.u64.bits)) + (1 : Int)), vi1))) else bif (decide ((rd x0 (IntKind.i64.wrap ((IntKind.u64.wrap (IntKind.i64.wrap (vi0 + vi1))).fdiv ((2 : Int) ^ min (Int.toNat (1 : Int)) IntKind.u64.bits))).toNat 0).int > x1)) then (some (.inl (vi0, IntKind.i64.wrap ((IntKind.u64.wrap (IntKind.i64.wrap (vi0 + vi1))).fdiv ((2 : Int) ^ min (Int.toNat (1 : Int)) IntKind.u64.bits))))) else some (.inl (vi0, IntKind.i64.wrap ((IntKind.u64.wrap (IntKind.i64.wrap (vi0 + vi1))).fdiv ((2 : Int) ^ min (Int.toNat (1 : Int)) IntKind.u64.bits)))) else none) else some (.inr (vi0, vi1))
noncomputable def bsf_L0_c : Code := loopC Try.prog 101 0
set_option maxRecDepth 100000 in
theorem bsf_L0_ok (x0 : List (List Ct)) (x1 : Int) : ∀ v, StepOk Try.prog 1 bsf_L0_c (bsf_L0_S x0 x1) (bsf_L0_T x0 x1) v (bsf_L0_step x0 x1 v) := fun v => match v with | (vi0, vi1) => eng_step (C := (⟨consOrbit6, fun _ _ _ => none, fun f => false, noFacts, fun _ => 0⟩ : Cfg Try.prog)) noFacts_ok (n := 30) (f := 101) bsf_L0_rd (fun _ => rfl) (by kernel_rfl)
noncomputable def bsf_L0_p (x0 : List (List Ct)) (x1 : Int) : Bool := (iter (bsf_L0_step x0 x1) (x0.length + 1) (0, (↑x0.length : Int))).isSome
noncomputable def bsf_L0_v (x0 : List (List Ct)) (x1 : Int) : Int × Int := loopRes (bsf_L0_step x0 x1) (x0.length + 1) (0, (↑x0.length : Int))
set_option maxRecDepth 100000 in
noncomputable def bsf_L0_lc (x0 : List (List Ct)) (x1 : Int) : LoopCon Try.prog := loopCon Try.prog 1 bsf_L0_c [] (bsf_L0_S x0 x1) (bsf_L0_T x0 x1) 0 (bsf_L0_step x0 x1) (bsf_L0_ok x0 x1) (x0.length + 1) (0, (↑x0.length : Int)) (bsf_L0_p x0 x1) rfl (bsf_L0_v x0 x1) rfl
noncomputable def bsf_O (v : Int × Bool) : Out := ⟨.tup [.one (.val false (.int .i64 v.1)), .one (.val false (.bool v.2))], [], 7, []⟩
noncomputable def bsf_rd (out : Out) : Option (Int × Bool) := some (rI (rvC out.v 0 0), rB (rvC out.v 1 0))
noncomputable def bsf_res (x0 : List (List Ct)) (x1 : Int) : Option (Int × Bool) := bif (bsf_L0_p x0 x1) then bif (decide ((bsf_L0_v x0 x1).fst < (↑x0.length : Int))) then (bif (decide ((0 : Int) ≤ (bsf_L0_v x0 x1).fst ∧ (bsf_L0_v x0 x1).fst < (↑x0.length : Int))) then bif (decide ((rd x0 (bsf_L0_v x0 x1).fst.toNat 0).int < x1)) then (some ((bsf_L0_v x0 x1).fst, false)) else bif (decide ((rd x0 (bsf_L0_v x0 x1).fst.toNat 0).int > x1)) then (some ((bsf_L0_v x0 x1).fst, false)) else some ((bsf_L0_v x0 x1).fst, true) else none) else some ((bsf_L0_v x0 x1).fst, false) else none
set_option maxRecDepth 100000 in
theorem bsf_tree {x0 : List (List Ct)} {x1 : Int} {v : Int × Bool} (h : bsf_res x0 x1 = some v) : CallOk Try.prog 101 [.sv (.one (.ext 0)), .sv (.one (.val false (.int .i64 x1))), .sv (.one (.fn 102 []))] [(0, .grid [.int .i64, .int .i64, .int .i64, .int .i64] x0)] 1 (bsf_O v) :=
  eng_tree (C := (⟨consOrbit6, fun f id nx => bif Nat.beq f 101 then (bif Nat.beq id 0 then some (bsf_L0_lc x0 x1) else none) else none, fun f => false, noFacts, fun _ => 0⟩ : Cfg Try.prog)) noFacts_ok (n := 30) (f := 101) bsf_O bsf_rd rfl (by kernel_rfl) h
noncomputable def bsf_v (x0 : List (List Ct)) (x1 : Int) : Int × Bool := (bsf_res x0 x1).getD default
theorem bsf_spec (x0 : List (List Ct)) (x1 : Int) (h : ((bsf_res x0 x1).isSome) = true) : bsf_res x0 x1 = some (bsf_v x0 x1) := opt_get h
noncomputable def bsf_as : List ASh := [.one (.grid [.int .i64, .int .i64, .int .i64, .int .i64]), .one (.int .i64), .one (.fn 102)]
noncomputable def bsf_con : Con Try.prog := conS Try.prog 101 bsf_as (fun x => some ((bsf_res (x.getD 0 (.i 0)).rows (x.getD 1 (.i 0)).int).isSome)) (fun x => bsf_O (bsf_v (x.getD 0 (.i 0)).rows (x.getD 1 (.i 0)).int))
  (fun x h => ⟨by kernel_rfl, by kernel_rfl, Eq.mp (by kernel_rfl) (@bsf_tree ((x.getD 0 (.i 0)).rows) ((x.getD 1 (.i 0)).int) _ (bsf_spec ((x.getD 0 (.i 0)).rows) ((x.getD 1 (.i 0)).int) (h _ rfl)))⟩)
noncomputable def consOrbitP : List (Con Try.prog) := [rpl_con.freeze, bsf_con.freeze] ++ consOrbit6
end Go.Proofs.Ytmpaelkjooahoaa
