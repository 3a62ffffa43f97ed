/- A picture's bytes; bytes against others. No condition. -/
import Derived.Test.YtcpbiijegbbafaaPackA
set_option linter.unusedVariables false
set_option linter.unusedSimpArgs false
namespace Go.Proofs.Ytcpbiijegbbafaa
open Go.RowKit

noncomputable def fla_L0_S (x0_0 : Int) (x0_1 : Int) (x0_2 : List (List Ct)) (v : Int × List (List Ct)) : St := ⟨[.sv (.agg [.q x0_0, .q x0_1, .ext 0]), .o (.ptr 1 0), .o (.val true (Value.slice none 0 0)), .o (.ext 2), .d, .d, .o (.ptr 1 2), .o (.ext 0), .o (.q (↑x0_2.length : Int)), .o (.q v.1), .d, .d, .d, .d, .d, .d, .d, .d], [(0, .grid ([Sh.int IntKind.u8, Sh.int IntKind.u8, Sh.int IntKind.u8]) x0_2), (1, .cells [.q x0_0, .q x0_1, .ext 0] 88), (2, .row ([Sh.int IntKind.u8]) 5 v.2)], 3, []⟩
noncomputable def fla_L0_T (x0_0 : Int) (x0_1 : Int) (x0_2 : List (List Ct)) (v : Int × List (List Ct)) : Ex × St := ((.exit 0), ⟨(fla_L0_S x0_0 x0_1 x0_2 v).fr, (fla_L0_S x0_0 x0_1 x0_2 v).hp, 4, []⟩)
noncomputable def fla_L0_rd (ex : Ex) (s : St) : Option ((Int × List (List Ct)) ⊕ (Int × List (List Ct))) × List (Nat × Option Nat) := match ex with
  | .normal => (some (.inl (rI (frC s 9 0), rL s (frC s 3 0))), [(1, some 1), rnOf 2 (frC s 3 0)])
  | .exit i => bif Nat.beq i 0 then (some (.inr (rI (frC s 9 0), rL s (frC s 3 0))), [(1, some 1), (2, some 2)]) else (none, [])
  | _ => (none, [])
noncomputable def fla_L0_step (x0_2 : List (List Ct)) : (Int × List (List Ct)) → Option ((Int × List (List Ct)) ⊕ (Int × List (List Ct))) := fun v => match v with
  | (vi0, vl0) => bif (decide (vi0 < (↑x0_2.length : Int))) then (bif (decide ((0 : Int) ≤ vi0 ∧ vi0 < (↑x0_2.length : Int))) then bif true then bif (decide (vl0.length + [[Ct.i (rd x0_2 vi0.toNat 0).int], [Ct.i (rd x0_2 vi0.toNat 1).int], [Ct.i (rd x0_2 vi0.toNat 2).int]].length ≤ 9223372036854775807 ∧ (vl0.length + [[Ct.i (rd x0_2 vi0.toNat 0).int], [Ct.i (rd x0_2 vi0.toNat 1).int], [Ct.i (rd x0_2 vi0.toNat 2).int]].length) * 1 ≤ 140737488355328)) then some (.inl (IntKind.i64.wrap (vi0 + (1 : Int)), vl0 ++ [[Ct.i (rd x0_2 vi0.toNat 0).int], [Ct.i (rd x0_2 vi0.toNat 1).int], [Ct.i (rd x0_2 vi0.toNat 2).int]])) else none else none else none) else some (.inr (vi0, vl0))
noncomputable def fla_L0_c : Code := loopC Try.prog 80 0
set_option maxRecDepth 100000 in
theorem fla_L0_ok (x0_0 : Int) (x0_1 : Int) (x0_2 : List (List Ct)) : ∀ v, StepOk Try.prog 1 fla_L0_c (fla_L0_S x0_0 x0_1 x0_2) (fla_L0_T x0_0 x0_1 x0_2) v (fla_L0_step x0_2 v) := fun v => match v with | (vi0, vl0) => eng_step (C := (⟨consPack, fun _ _ _ => none, fun f => false, noFacts, fun _ => 0⟩ : Cfg Try.prog)) noFacts_ok (n := 30) (f := 80) fla_L0_rd (fun _ => rfl) (by kernel_rfl)
noncomputable def fla_L0_p (x0_2 : List (List Ct)) : Bool := (iter (fla_L0_step x0_2) (x0_2.length + 1) (0, [])).isSome
noncomputable def fla_L0_v (x0_2 : List (List Ct)) : Int × List (List Ct) := loopRes (fla_L0_step x0_2) (x0_2.length + 1) (0, [])
set_option maxRecDepth 100000 in
noncomputable def fla_L0_lc (x0_0 : Int) (x0_1 : Int) (x0_2 : List (List Ct)) : LoopCon Try.prog := loopCon Try.prog 1 fla_L0_c [(1, some 1), (2, none)] (fla_L0_S x0_0 x0_1 x0_2) (fla_L0_T x0_0 x0_1 x0_2) 0 (fla_L0_step x0_2) (fla_L0_ok x0_0 x0_1 x0_2) (x0_2.length + 1) (0, []) (fla_L0_p x0_2) rfl (fla_L0_v x0_2) rfl
noncomputable def fla_O (v : List (List Ct)) : Out := ⟨.sv (.one (.ext 2)), [(2, .row ([Sh.int IntKind.u8]) 5 v)], 4, []⟩
noncomputable def fla_rd (out : Out) : Option (List (List Ct)) := some (hpL' out.up 2)
noncomputable def fla_res (x0_2 : List (List Ct)) : Option (List (List Ct)) := bif (fla_L0_p x0_2) then some ((fla_L0_v x0_2).snd) else none
set_option maxRecDepth 100000 in
theorem fla_tree {x0_0 : Int} {x0_1 : Int} {x0_2 : List (List Ct)} {v : List (List Ct)} (h : fla_res x0_2 = some v) : CallOk Try.prog 80 [.sv (.agg [.val false (.int .i64 x0_0), .val false (.int .i64 x0_1), .ext 0])] [(0, .grid [.int .u8, .int .u8, .int .u8] x0_2)] 1 (fla_O v) :=
  eng_tree (C := (⟨consPack, fun f id nx => bif Nat.beq f 80 then (bif Nat.beq id 0 then some (fla_L0_lc x0_0 x0_1 x0_2) else none) else none, fun f => false, noFacts, fun _ => 0⟩ : Cfg Try.prog)) noFacts_ok (n := 30) (f := 80) fla_O fla_rd rfl (by kernel_rfl) h
noncomputable def fla_v (x0_2 : List (List Ct)) : List (List Ct) := (fla_res x0_2).getD default
theorem fla_spec (x0_2 : List (List Ct)) (h : ((fla_res x0_2).isSome) = true) : fla_res x0_2 = some (fla_v x0_2) := opt_get h
noncomputable def fla_m (args : List RV) (hp : Hp) : Option ((Int × Int × List (List Ct)) × List Nat) := match args with
  | [.sv (.agg [.val _ (.int .i64 x0_0), .val _ (.int .i64 x0_1), .ext i0])] => (match gridAt hp i0 [.int .u8, .int .u8, .int .u8] with
    | some x0_2 => some ((x0_0, x0_1, x0_2), [i0])
    | _ => none)
  | _ => none
noncomputable def fla_con : Con Try.prog := conX Try.prog 80 fla_m 1 (fun x => [.sv (.agg [.val false (.int .i64 x.1), .val false (.int .i64 x.2.1), .ext 0])]) (fun x => [(0, .grid [.int .u8, .int .u8, .int .u8] x.2.2)]) (fun x => some ((fla_res x.2.2).isSome)) (fun x => fla_O (fla_v x.2.2))
  (by
    intro args hp x r h
    unfold fla_m at h
    split at h
    · split at h
      · rename_i g0
        cases h
        refine ⟨rfl, fun nx => ⟨rfl, ?_, ?_⟩⟩
        · intro i hi
          simp only [List.mem_cons, List.not_mem_nil, or_false] at hi
          rcases hi with rfl
          · exact ⟨_, List.mem_of_getElem? (i := 0) rfl, .inl (by simp [RV.ids, SV.ids, CV.ids])⟩
        · intro id o0 ho
          have := hlook_mem ho
          simp only [List.mem_cons, Prod.mk.injEq, List.not_mem_nil, or_false] at this
          rcases this with ⟨rfl, rfl⟩
          · exact ⟨_, gridAt_spec g0, rfl⟩
      · cases h
    · cases h)
  (fun x h => ⟨rfl, rfl, fla_tree (fla_spec x.2.2 (h _ rfl))⟩)

noncomputable def acr_L0_S (x0 : List (List Ct)) (x1 : List (List Ct)) (v : Int × List (List Ct)) : St := ⟨[.o (.ext 0), .o (.ext 1), .d, .d, .o (.val true (Value.slice none 0 0)), .o (.ext 3), .d, .o (.sl 2 0 0 0), .o (.ext 0), .o (.ext 3), .o (.ext 3), .o (.q (↑([] ++ x0).length : Int)), .o (.q v.1), .d, .d, .d, .d, .d, .d, .d, .d, .d, .d, .d, .d, .d, .d], [(0, .grid ([Sh.int IntKind.u8]) x0), (1, .grid ([Sh.int IntKind.u8]) x1), (2, .gone), (3, .row ([Sh.int IntKind.u8]) 5 v.2)], 4, []⟩
noncomputable def acr_L0_T (x0 : List (List Ct)) (x1 : List (List Ct)) (v : Int × List (List Ct)) : Ex × St := ((.exit 0), ⟨(acr_L0_S x0 x1 v).fr, (acr_L0_S x0 x1 v).hp, 5, []⟩)
noncomputable def acr_L0_rd (ex : Ex) (s : St) : Option ((Int × List (List Ct)) ⊕ (Int × List (List Ct))) × List (Nat × Option Nat) := match ex with
  | .normal => (some (.inl (rI (frC s 12 0), rL s (frC s 5 0))), [(2, some 2), (3, some 3)])
  | .exit i => bif Nat.beq i 0 then (some (.inr (rI (frC s 12 0), rL s (frC s 5 0))), [(2, some 2), (3, some 3)]) else (none, [])
  | _ => (none, [])
noncomputable def acr_L0_step (x0 : List (List Ct)) (x1 : List (List Ct)) : (Int × List (List Ct)) → Option ((Int × List (List Ct)) ⊕ (Int × List (List Ct))) := fun v => match v with
  | (vi0, vl0) => bif (decide (vi0 < (↑([] ++ x0).length : Int))) then (bif (decide ((0 : Int) ≤ vi0 ∧ vi0 < (↑vl0.length : Int))) then bif (decide ((0 : Int) ≤ vi0 ∧ vi0 < (↑x1.length : Int))) then bif (decide ((0 : Int) ≤ vi0 ∧ vi0 < (↑vl0.length : Int))) then some (.inl (IntKind.i64.wrap (vi0 + (1 : Int)), vl0.set vi0.toNat (updRow 1 0 [Ct.i (IntKind.u8.wrap (↑(BitVec.ofInt IntKind.u8.bits (rd vl0 vi0.toNat 0).int ^^^ BitVec.ofInt IntKind.u8.bits (rd x1 vi0.toNat 0).int).toNat : Int))] (vl0.getD vi0.toNat [])))) else none else none else none) else some (.inr (vi0, vl0))
noncomputable def acr_L0_c : Code := loopC Try.prog 123 0
set_option maxRecDepth 100000 in
theorem acr_L0_ok (x0 : List (List Ct)) (x1 : List (List Ct)) : ∀ v, StepOk Try.prog 2 acr_L0_c (acr_L0_S x0 x1) (acr_L0_T x0 x1) v (acr_L0_step x0 x1 v) := fun v => match v with | (vi0, vl0) => eng_step (C := (⟨consPack, fun _ _ _ => none, fun f => false, noFacts, fun _ => 0⟩ : Cfg Try.prog)) noFacts_ok (n := 30) (f := 123) acr_L0_rd (fun _ => rfl) (by kernel_rfl)
noncomputable def acr_L0_p (x0 : List (List Ct)) (x1 : List (List Ct)) : Bool := (iter (acr_L0_step x0 x1) (x0.length + 1) (0, ([] ++ x0))).isSome
noncomputable def acr_L0_v (x0 : List (List Ct)) (x1 : List (List Ct)) : Int × List (List Ct) := loopRes (acr_L0_step x0 x1) (x0.length + 1) (0, ([] ++ x0))
set_option maxRecDepth 100000 in
noncomputable def acr_L0_lc (x0 : List (List Ct)) (x1 : List (List Ct)) : LoopCon Try.prog := loopCon Try.prog 2 acr_L0_c [(2, some 2), (3, some 3)] (acr_L0_S x0 x1) (acr_L0_T x0 x1) 0 (acr_L0_step x0 x1) (acr_L0_ok x0 x1) (x0.length + 1) (0, ([] ++ x0)) (acr_L0_p x0 x1) rfl (acr_L0_v x0 x1) rfl
noncomputable def acr_O (v : List (List Ct)) : Out := ⟨.sv (.one (.ext 3)), [(3, .row ([Sh.int IntKind.u8]) 5 v)], 5, []⟩
noncomputable def acr_rd (out : Out) : Option (List (List Ct)) := some (hpL' out.up 3)
noncomputable def acr_res (x0 : List (List Ct)) (x1 : List (List Ct)) : Option (List (List Ct)) := bif (decide (0 + x0.length ≤ 9223372036854775807 ∧ (0 + x0.length) * 1 ≤ 140737488355328)) then bif (acr_L0_p x0 x1) then some ((acr_L0_v x0 x1).snd) else none else none
set_option maxRecDepth 100000 in
theorem acr_tree {x0 x1 v : List (List Ct)} (h : acr_res x0 x1 = some v) : CallOk Try.prog 123 [.sv (.one (.ext 0)), .sv (.one (.ext 1))] [(0, .grid [.int .u8] x0), (1, .grid [.int .u8] x1)] 2 (acr_O v) :=
  eng_tree (C := (⟨consPack, fun f id nx => bif Nat.beq f 123 then (bif Nat.beq id 0 then some (acr_L0_lc x0 x1) else none) else none, fun f => false, noFacts, fun _ => 0⟩ : Cfg Try.prog)) noFacts_ok (n := 30) (f := 123) acr_O acr_rd rfl (by kernel_rfl) h
noncomputable def acr_v (x0 : List (List Ct)) (x1 : List (List Ct)) : List (List Ct) := (acr_res x0 x1).getD default
theorem acr_spec (x0 : List (List Ct)) (x1 : List (List Ct)) (h : ((acr_res x0 x1).isSome) = true) : acr_res x0 x1 = some (acr_v x0 x1) := opt_get h
noncomputable def acr_m (args : List RV) (hp : Hp) : Option ((List (List Ct) × List (List Ct)) × List Nat) := match args with
  | [.sv (.one (.ext i0)), .sv (.one (.ext i1))] => (match gridAt hp i0 [.int .u8], gridAt hp i1 [.int .u8] with
    | some x0, some x1 => some ((x0, x1), [i0, i1])
    | _, _ => none)
  | _ => none
noncomputable def acr_con : Con Try.prog := conX Try.prog 123 acr_m 2 (fun x => [.sv (.one (.ext 0)), .sv (.one (.ext 1))]) (fun x => [(0, .grid [.int .u8] x.1), (1, .grid [.int .u8] x.2)]) (fun x => some ((acr_res x.1 x.2).isSome)) (fun x => acr_O (acr_v x.1 x.2))
  (by
    intro args hp x r h
    unfold acr_m at h
    split at h
    · split at h
      · rename_i g0 g1
        cases h
        refine ⟨rfl, fun nx => ⟨rfl, ?_, ?_⟩⟩
        · intro i hi
          simp only [List.mem_cons, List.not_mem_nil, or_false] at hi
          rcases hi with rfl | rfl
          · exact ⟨_, List.mem_of_getElem? (i := 0) rfl, .inl (by simp [RV.ids, SV.ids, CV.ids])⟩
          · exact ⟨_, List.mem_of_getElem? (i := 1) rfl, .inl (by simp [RV.ids, SV.ids, CV.ids])⟩
        · intro id o0 ho
          have := hlook_mem ho
          simp only [List.mem_cons, Prod.mk.injEq, List.not_mem_nil, or_false] at this
          rcases this with ⟨rfl, rfl⟩ | ⟨rfl, rfl⟩
          · exact ⟨_, gridAt_spec g0, rfl⟩
          · exact ⟨_, gridAt_spec g1, rfl⟩
      · cases h
    · cases h)
  (fun x h => ⟨rfl, rfl, acr_tree (acr_spec x.1 x.2 (h _ rfl))⟩)

noncomputable def rfla_L0_S (x0_0 : Int) (x0_1 : Int) (x0_2 : List (List Ct)) (v : Int × List (List Ct)) : St := ⟨[.sv (.agg [.q x0_0, .q x0_1, .ext 0]), .o (.ptr 1 0), .o (.val true (Value.slice none 0 0)), .o (.ext 2), .o (.q v.1), .d, .d, .d, .d, .d, .d, .d, .d, .d, .d, .d, .d, .d, .d, .d, .d, .d, .d, .d, .d, .d, .d, .d, .d, .d, .d, .d, .d, .d], [(0, .grid ([Sh.int IntKind.u8, Sh.int IntKind.u8, Sh.int IntKind.u8]) x0_2), (1, .cells [.q x0_0, .q x0_1, .ext 0] 83), (2, .row ([Sh.int IntKind.u8]) 5 v.2)], 3, []⟩
noncomputable def rfla_L0_T (x0_0 : Int) (x0_1 : Int) (x0_2 : List (List Ct)) (v : Int × List (List Ct)) : Ex × St := ((.exit 0), ⟨(rfla_L0_S x0_0 x0_1 x0_2 v).fr, (rfla_L0_S x0_0 x0_1 x0_2 v).hp, 4, []⟩)
noncomputable def rfla_L0_rd (ex : Ex) (s : St) : Option ((Int × List (List Ct)) ⊕ (Int × List (List Ct))) × List (Nat × Option Nat) := match ex with
  | .normal => (some (.inl (rI (frC s 4 0), rL s (frC s 3 0))), [(1, some 1), rnOf 2 (frC s 3 0)])
  | .exit i => bif Nat.beq i 0 then (some (.inr (rI (frC s 4 0), rL s (frC s 3 0))), [(1, some 1), (2, some 2)]) else (none, [])
  | _ => (none, [])
noncomputable def rfla_L0_step (x0_2 : List (List Ct)) : (Int × List (List Ct)) → Option ((Int × List (List Ct)) ⊕ (Int × List (List Ct))) := fun v => match v with
  | (vi0, vl0) => bif (decide (vi0 < (↑x0_2.length : Int))) then (bif (decide ((0 : Int) ≤ vi0 ∧ vi0 < (↑x0_2.length : Int))) then bif (decide ((0 : Int) ≤ vi0 ∧ vi0 < (↑x0_2.length : Int))) then bif (decide ((0 : Int) ≤ vi0 ∧ vi0 < (↑x0_2.length : Int))) then bif (decide (vl0.length + [[Ct.i (rd x0_2 vi0.toNat 0).int], [Ct.i (rd x0_2 vi0.toNat 1).int], [Ct.i (rd x0_2 vi0.toNat 2).int]].length ≤ 9223372036854775807 ∧ (vl0.length + [[Ct.i (rd x0_2 vi0.toNat 0).int], [Ct.i (rd x0_2 vi0.toNat 1).int], [Ct.i (rd x0_2 vi0.toNat 2).int]].length) * 1 ≤ 140737488355328)) then some (.inl (IntKind.i64.wrap (vi0 + (1 : Int)), vl0 ++ [[Ct.i (rd x0_2 vi0.toNat 0).int], [Ct.i (rd x0_2 vi0.toNat 1).int], [Ct.i (rd x0_2 vi0.toNat 2).int]])) else none else none else none else none) else some (.inr (vi0, vl0))
noncomputable def rfla_L0_c : Code := loopC Try.prog 86 0
set_option maxRecDepth 100000 in
theorem rfla_L0_ok (x0_0 : Int) (x0_1 : Int) (x0_2 : List (List Ct)) : ∀ v, StepOk Try.prog 1 rfla_L0_c (rfla_L0_S x0_0 x0_1 x0_2) (rfla_L0_T x0_0 x0_1 x0_2) v (rfla_L0_step x0_2 v) := fun v => match v with | (vi0, vl0) => eng_step (C := (⟨consPack, fun _ _ _ => none, fun f => false, noFacts, fun _ => 0⟩ : Cfg Try.prog)) noFacts_ok (n := 30) (f := 86) rfla_L0_rd (fun _ => rfl) (by kernel_rfl)
noncomputable def rfla_L0_p (x0_2 : List (List Ct)) : Bool := (iter (rfla_L0_step x0_2) (x0_2.length + 1) (0, [])).isSome
noncomputable def rfla_L0_v (x0_2 : List (List Ct)) : Int × List (List Ct) := loopRes (rfla_L0_step x0_2) (x0_2.length + 1) (0, [])
set_option maxRecDepth 100000 in
noncomputable def rfla_L0_lc (x0_0 : Int) (x0_1 : Int) (x0_2 : List (List Ct)) : LoopCon Try.prog := loopCon Try.prog 1 rfla_L0_c [(1, some 1), (2, none)] (rfla_L0_S x0_0 x0_1 x0_2) (rfla_L0_T x0_0 x0_1 x0_2) 0 (rfla_L0_step x0_2) (rfla_L0_ok x0_0 x0_1 x0_2) (x0_2.length + 1) (0, []) (rfla_L0_p x0_2) rfl (rfla_L0_v x0_2) rfl
noncomputable def rfla_O (v : List (List Ct)) : Out := ⟨.sv (.one (.ext 2)), [(2, .row ([Sh.int IntKind.u8]) 5 v)], 4, []⟩
noncomputable def rfla_rd (out : Out) : Option (List (List Ct)) := some (hpL' out.up 2)
noncomputable def rfla_res (x0_2 : List (List Ct)) : Option (List (List Ct)) := bif (rfla_L0_p x0_2) then some ((rfla_L0_v x0_2).snd) else none
set_option maxRecDepth 100000 in
theorem rfla_tree {x0_0 : Int} {x0_1 : Int} {x0_2 : List (List Ct)} {v : List (List Ct)} (h : rfla_res x0_2 = some v) : CallOk Try.prog 86 [.sv (.agg [.val false (.int .i64 x0_0), .val false (.int .i64 x0_1), .ext 0])] [(0, .grid [.int .u8, .int .u8, .int .u8] x0_2)] 1 (rfla_O v) :=
  eng_tree (C := (⟨consPack, fun f id nx => bif Nat.beq f 86 then (bif Nat.beq id 0 then some (rfla_L0_lc x0_0 x0_1 x0_2) else none) else none, fun f => false, noFacts, fun _ => 0⟩ : Cfg Try.prog)) noFacts_ok (n := 30) (f := 86) rfla_O rfla_rd rfl (by kernel_rfl) h
noncomputable def rfla_v (x0_2 : List (List Ct)) : List (List Ct) := (rfla_res x0_2).getD default
theorem rfla_spec (x0_2 : List (List Ct)) (h : ((rfla_res x0_2).isSome) = true) : rfla_res x0_2 = some (rfla_v x0_2) := opt_get h
noncomputable def rfla_m (args : List RV) (hp : Hp) : Option ((Int × Int × List (List Ct)) × List Nat) := match args with
  | [.sv (.agg [.val _ (.int .i64 x0_0), .val _ (.int .i64 x0_1), .ext i0])] => (match gridAt hp i0 [.int .u8, .int .u8, .int .u8] with
    | some x0_2 => some ((x0_0, x0_1, x0_2), [i0])
    | _ => none)
  | _ => none
noncomputable def rfla_con : Con Try.prog := conX Try.prog 86 rfla_m 1 (fun x => [.sv (.agg [.val false (.int .i64 x.1), .val false (.int .i64 x.2.1), .ext 0])]) (fun x => [(0, .grid [.int .u8, .int .u8, .int .u8] x.2.2)]) (fun x => some ((rfla_res x.2.2).isSome)) (fun x => rfla_O (rfla_v x.2.2))
  (by
    intro args hp x r h
    unfold rfla_m at h
    split at h
    · split at h
      · rename_i g0
        cases h
        refine ⟨rfl, fun nx => ⟨rfl, ?_, ?_⟩⟩
        · intro i hi
          simp only [List.mem_cons, List.not_mem_nil, or_false] at hi
          rcases hi with rfl
          · exact ⟨_, List.mem_of_getElem? (i := 0) rfl, .inl (by simp [RV.ids, SV.ids, CV.ids])⟩
        · intro id o0 ho
          have := hlook_mem ho
          simp only [List.mem_cons, Prod.mk.injEq, List.not_mem_nil, or_false] at this
          rcases this with ⟨rfl, rfl⟩
          · exact ⟨_, gridAt_spec g0, rfl⟩
      · cases h
    · cases h)
  (fun x h => ⟨rfl, rfl, rfla_tree (rfla_spec x.2.2 (h _ rfl))⟩)

noncomputable def rxo_L0_S (x0 : List (List Ct)) (x1 : List (List Ct)) (v : Int × List (List Ct)) : St := ⟨[.o (.ext 0), .o (.ext 1), .d, .d, .o (.val true (Value.slice none 0 0)), .o (.ext 2), .o (.q v.1), .d, .d, .d, .d, .d, .d, .d, .d, .d, .d, .d, .d, .d, .d, .d, .d, .d, .d, .d], [(0, .grid ([Sh.int IntKind.u8]) x0), (1, .grid ([Sh.int IntKind.u8]) x1), (2, .row ([Sh.int IntKind.u8]) 5 v.2)], 3, []⟩
noncomputable def rxo_L0_T (x0 : List (List Ct)) (x1 : List (List Ct)) (v : Int × List (List Ct)) : Ex × St := ((.exit 0), ⟨(rxo_L0_S x0 x1 v).fr, (rxo_L0_S x0 x1 v).hp, 4, []⟩)
noncomputable def rxo_L0_rd (ex : Ex) (s : St) : Option ((Int × List (List Ct)) ⊕ (Int × List (List Ct))) × List (Nat × Option Nat) := match ex with
  | .normal => (some (.inl (rI (frC s 6 0), rL s (frC s 5 0))), [rnOf 2 (frC s 5 0)])
  | .exit i => bif Nat.beq i 0 then (some (.inr (rI (frC s 6 0), rL s (frC s 5 0))), [(2, some 2)]) else (none, [])
  | _ => (none, [])
noncomputable def rxo_L0_step (x0 : List (List Ct)) (x1 : List (List Ct)) : (Int × List (List Ct)) → Option ((Int × List (List Ct)) ⊕ (Int × List (List Ct))) := fun v => match v with
  | (vi0, vl0) => bif (decide (vi0 < (↑x0.length : Int))) then (bif (decide ((0 : Int) ≤ vi0 ∧ vi0 < (↑x0.length : Int))) then bif (decide ((0 : Int) ≤ vi0 ∧ vi0 < (↑x1.length : Int))) then bif (decide (vl0.length + [[Ct.i (IntKind.u8.wrap (↑(BitVec.ofInt IntKind.u8.bits (rd x0 vi0.toNat 0).int ^^^ BitVec.ofInt IntKind.u8.bits (rd x1 vi0.toNat 0).int).toNat : Int))]].length ≤ 9223372036854775807 ∧ (vl0.length + [[Ct.i (IntKind.u8.wrap (↑(BitVec.ofInt IntKind.u8.bits (rd x0 vi0.toNat 0).int ^^^ BitVec.ofInt IntKind.u8.bits (rd x1 vi0.toNat 0).int).toNat : Int))]].length) * 1 ≤ 140737488355328)) then some (.inl (IntKind.i64.wrap (vi0 + (1 : Int)), vl0 ++ [[Ct.i (IntKind.u8.wrap (↑(BitVec.ofInt IntKind.u8.bits (rd x0 vi0.toNat 0).int ^^^ BitVec.ofInt IntKind.u8.bits (rd x1 vi0.toNat 0).int).toNat : Int))]])) else none else none else none) else some (.inr (vi0, vl0))
noncomputable def rxo_L0_c : Code := loopC Try.prog 87 0
set_option maxRecDepth 100000 in
theorem rxo_L0_ok (x0 : List (List Ct)) (x1 : List (List Ct)) : ∀ v, StepOk Try.prog 2 rxo_L0_c (rxo_L0_S x0 x1) (rxo_L0_T x0 x1) v (rxo_L0_step x0 x1 v) := fun v => match v with | (vi0, vl0) => eng_step (C := (⟨consPack, fun _ _ _ => none, fun f => false, noFacts, fun _ => 0⟩ : Cfg Try.prog)) noFacts_ok (n := 30) (f := 87) rxo_L0_rd (fun _ => rfl) (by kernel_rfl)
noncomputable def rxo_L0_p (x0 : List (List Ct)) (x1 : List (List Ct)) : Bool := (iter (rxo_L0_step x0 x1) (x0.length + 1) (0, [])).isSome
noncomputable def rxo_L0_v (x0 : List (List Ct)) (x1 : List (List Ct)) : Int × List (List Ct) := loopRes (rxo_L0_step x0 x1) (x0.length + 1) (0, [])
set_option maxRecDepth 100000 in
noncomputable def rxo_L0_lc (x0 : List (List Ct)) (x1 : List (List Ct)) : LoopCon Try.prog := loopCon Try.prog 2 rxo_L0_c [(2, none)] (rxo_L0_S x0 x1) (rxo_L0_T x0 x1) 0 (rxo_L0_step x0 x1) (rxo_L0_ok x0 x1) (x0.length + 1) (0, []) (rxo_L0_p x0 x1) rfl (rxo_L0_v x0 x1) rfl
noncomputable def rxo_O (v : List (List Ct)) : Out := ⟨.sv (.one (.ext 2)), [(2, .row ([Sh.int IntKind.u8]) 5 v)], 4, []⟩
noncomputable def rxo_rd (out : Out) : Option (List (List Ct)) := some (hpL' out.up 2)
noncomputable def rxo_res (x0 : List (List Ct)) (x1 : List (List Ct)) : Option (List (List Ct)) := bif (rxo_L0_p x0 x1) then some ((rxo_L0_v x0 x1).snd) else none
set_option maxRecDepth 100000 in
theorem rxo_tree {x0 x1 v : List (List Ct)} (h : rxo_res x0 x1 = some v) : CallOk Try.prog 87 [.sv (.one (.ext 0)), .sv (.one (.ext 1))] [(0, .grid [.int .u8] x0), (1, .grid [.int .u8] x1)] 2 (rxo_O v) :=
  eng_tree (C := (⟨consPack, fun f id nx => bif Nat.beq f 87 then (bif Nat.beq id 0 then some (rxo_L0_lc x0 x1) else none) else none, fun f => false, noFacts, fun _ => 0⟩ : Cfg Try.prog)) noFacts_ok (n := 30) (f := 87) rxo_O rxo_rd rfl (by kernel_rfl) h
noncomputable def rxo_v (x0 : List (List Ct)) (x1 : List (List Ct)) : List (List Ct) := (rxo_res x0 x1).getD default
theorem rxo_spec (x0 : List (List Ct)) (x1 : List (List Ct)) (h : ((rxo_res x0 x1).isSome) = true) : rxo_res x0 x1 = some (rxo_v x0 x1) := opt_get h
noncomputable def rxo_m (args : List RV) (hp : Hp) : Option ((List (List Ct) × List (List Ct)) × List Nat) := match args with
  | [.sv (.one (.ext i0)), .sv (.one (.ext i1))] => (match gridAt hp i0 [.int .u8], gridAt hp i1 [.int .u8] with
    | some x0, some x1 => some ((x0, x1), [i0, i1])
    | _, _ => none)
  | _ => none
noncomputable def rxo_con : Con Try.prog := conX Try.prog 87 rxo_m 2 (fun x => [.sv (.one (.ext 0)), .sv (.one (.ext 1))]) (fun x => [(0, .grid [.int .u8] x.1), (1, .grid [.int .u8] x.2)]) (fun x => some ((rxo_res x.1 x.2).isSome)) (fun x => rxo_O (rxo_v x.1 x.2))
  (by
    intro args hp x r h
    unfold rxo_m at h
    split at h
    · split at h
      · rename_i g0 g1
        cases h
        refine ⟨rfl, fun nx => ⟨rfl, ?_, ?_⟩⟩
        · intro i hi
          simp only [List.mem_cons, List.not_mem_nil, or_false] at hi
          rcases hi with rfl | rfl
          · exact ⟨_, List.mem_of_getElem? (i := 0) rfl, .inl (by simp [RV.ids, SV.ids, CV.ids])⟩
          · exact ⟨_, List.mem_of_getElem? (i := 1) rfl, .inl (by simp [RV.ids, SV.ids, CV.ids])⟩
        · intro id o0 ho
          have := hlook_mem ho
          simp only [List.mem_cons, Prod.mk.injEq, List.not_mem_nil, or_false] at this
          rcases this with ⟨rfl, rfl⟩ | ⟨rfl, rfl⟩
          · exact ⟨_, gridAt_spec g0, rfl⟩
          · exact ⟨_, gridAt_spec g1, rfl⟩
      · cases h
    · cases h)
  (fun x h => ⟨rfl, rfl, rxo_tree (rxo_spec x.1 x.2 (h _ rfl))⟩)
noncomputable def consFk1 : List (Con Try.prog) := [fla_con.freezeR.freezeO, acr_con.freezeR.freezeO, rfla_con.freezeR.freezeO, rxo_con.freezeR.freezeO] ++ consPack7
end Go.Proofs.Ytcpbiijegbbafaa
