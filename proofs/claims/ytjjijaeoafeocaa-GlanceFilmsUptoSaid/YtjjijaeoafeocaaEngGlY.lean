/- A film's shapes and flows, as the document has them. No condition. -/
import Derived.Test.YtjjijaeoafeocaaEngGlU
set_option linter.unusedVariables false
set_option linter.unusedSimpArgs false
namespace Go.Proofs.Ytjjijaeoafeocaa
open Go.RowKit

noncomputable def rsh_L2_S (x0_0 : Int) (x0_1 : Int) (x0_2 x0_3 x0_4 x0_5 x0_6 x0_7 : List (List Ct)) (vi0 : Int) (vl0 : List (List Ct)) (v : Int × List (List Ct)) : St := ⟨[.sv (.agg [.q x0_0, .q x0_1, .ext 0, .ext 1, .ext 2, .ext 3, .ext 4, .ext 5]), .o (.ptr 6 0), .o (.val true (Value.slice none 0 0)), .o (.ext 7), .o (.q vi0), .o (.ext 9), .o (.q v.1), .d, .d, .o (.q vi0), .o (.ptr 6 0), .o (.ptr 6 1), .o (.q x0_1), .o (.val true (.bool true)), .d, .d, .d, .d, .d, .d, .d, .d, .d, .d, .d, .d, .d, .d, .d, .d, .d, .d, .d, .d, .d, .d, .d, .d, .d, .d, .d, .d, .d, .d, .d, .d, .d, .d, .d, .d, .d, .d, .d, .d, .d, .d, .d], [(0, .grid ([Sh.int IntKind.i64, Sh.int IntKind.i64, Sh.int IntKind.i64]) x0_2), (1, .grid ([Sh.int IntKind.i64]) x0_3), (2, .grid ([Sh.int IntKind.i64, Sh.int IntKind.i64, Sh.int IntKind.i64]) x0_4), (3, .grid ([Sh.int IntKind.i64, Sh.int IntKind.i64, Sh.int IntKind.i64]) x0_5), (4, .grid ([Sh.int IntKind.i64]) x0_6), (5, .grid ([Sh.int IntKind.i64]) x0_7), (6, .cells [.q x0_0, .q x0_1, .ext 0, .ext 1, .ext 2, .ext 3, .ext 4, .ext 5] 56), (7, .row ([Sh.str]) 9 vl0), (9, .row ([Sh.int IntKind.u8]) 5 v.2)], 10, []⟩
noncomputable def rsh_L2_T (x0_0 : Int) (x0_1 : Int) (x0_2 x0_3 x0_4 x0_5 x0_6 x0_7 : List (List Ct)) (vi0 : Int) (vl0 : List (List Ct)) (v : Int × List (List Ct)) : Ex × St := ((.exit 2), ⟨(rsh_L2_S x0_0 x0_1 x0_2 x0_3 x0_4 x0_5 x0_6 x0_7 vi0 vl0 v).fr, (rsh_L2_S x0_0 x0_1 x0_2 x0_3 x0_4 x0_5 x0_6 x0_7 vi0 vl0 v).hp, 11, []⟩)
noncomputable def rsh_L2_rd (ex : Ex) (s : St) : Option ((Int × List (List Ct)) ⊕ (Int × List (List Ct))) × List (Nat × Option Nat) := match ex with
  | .normal => (some (.inl (rI (frC s 6 0), rL s (frC s 5 0))), [(6, some 6), (7, some 7), rnOf 9 (frC s 5 0)])
  | .exit i => bif Nat.beq i 2 then (some (.inr (rI (frC s 6 0), rL s (frC s 5 0))), [(6, some 6), (7, some 7), (9, some 9)]) else (none, [])
  | _ => (none, [])
noncomputable def rsh_L2_step (x0_0 : Int) (x0_6 : List (List Ct)) (vi0 : Int) : (Int × List (List Ct)) → Option ((Int × List (List Ct)) ⊕ (Int × List (List Ct))) := fun v => match v with
  | (wi0, wl0) => bif (decide (wi0 < x0_0)) then (bif (decide ((0 : Int) ≤ IntKind.i64.wrap (IntKind.i64.wrap (vi0 * x0_0) + wi0) ∧ IntKind.i64.wrap (IntKind.i64.wrap (vi0 * x0_0) + wi0) < (↑x0_6.length : Int))) then bif (decide (wl0.length + [[Ct.i (bif decide ((rd x0_6 (IntKind.i64.wrap (IntKind.i64.wrap (vi0 * x0_0) + wi0)).toNat 0).int < (0 : Int)) then (46 : Int) else bif decide ((rd x0_6 (IntKind.i64.wrap (IntKind.i64.wrap (vi0 * x0_0) + wi0)).toNat 0).int < (10 : Int)) then IntKind.u8.wrap (IntKind.i64.wrap ((48 : Int) + (rd x0_6 (IntKind.i64.wrap (IntKind.i64.wrap (vi0 * x0_0) + wi0)).toNat 0).int)) else bif decide ((rd x0_6 (IntKind.i64.wrap (IntKind.i64.wrap (vi0 * x0_0) + wi0)).toNat 0).int < (36 : Int)) then IntKind.u8.wrap (IntKind.i64.wrap (IntKind.i64.wrap ((97 : Int) + (rd x0_6 (IntKind.i64.wrap (IntKind.i64.wrap (vi0 * x0_0) + wi0)).toNat 0).int) - (10 : Int))) else (43 : Int))]].length ≤ 9223372036854775807 ∧ (wl0.length + [[Ct.i (bif decide ((rd x0_6 (IntKind.i64.wrap (IntKind.i64.wrap (vi0 * x0_0) + wi0)).toNat 0).int < (0 : Int)) then (46 : Int) else bif decide ((rd x0_6 (IntKind.i64.wrap (IntKind.i64.wrap (vi0 * x0_0) + wi0)).toNat 0).int < (10 : Int)) then IntKind.u8.wrap (IntKind.i64.wrap ((48 : Int) + (rd x0_6 (IntKind.i64.wrap (IntKind.i64.wrap (vi0 * x0_0) + wi0)).toNat 0).int)) else bif decide ((rd x0_6 (IntKind.i64.wrap (IntKind.i64.wrap (vi0 * x0_0) + wi0)).toNat 0).int < (36 : Int)) then IntKind.u8.wrap (IntKind.i64.wrap (IntKind.i64.wrap ((97 : Int) + (rd x0_6 (IntKind.i64.wrap (IntKind.i64.wrap (vi0 * x0_0) + wi0)).toNat 0).int) - (10 : Int))) else (43 : Int))]].length) * 1 ≤ 140737488355328)) then some (.inl (IntKind.i64.wrap (wi0 + (1 : Int)), wl0 ++ [[Ct.i (bif decide ((rd x0_6 (IntKind.i64.wrap (IntKind.i64.wrap (vi0 * x0_0) + wi0)).toNat 0).int < (0 : Int)) then (46 : Int) else bif decide ((rd x0_6 (IntKind.i64.wrap (IntKind.i64.wrap (vi0 * x0_0) + wi0)).toNat 0).int < (10 : Int)) then IntKind.u8.wrap (IntKind.i64.wrap ((48 : Int) + (rd x0_6 (IntKind.i64.wrap (IntKind.i64.wrap (vi0 * x0_0) + wi0)).toNat 0).int)) else bif decide ((rd x0_6 (IntKind.i64.wrap (IntKind.i64.wrap (vi0 * x0_0) + wi0)).toNat 0).int < (36 : Int)) then IntKind.u8.wrap (IntKind.i64.wrap (IntKind.i64.wrap ((97 : Int) + (rd x0_6 (IntKind.i64.wrap (IntKind.i64.wrap (vi0 * x0_0) + wi0)).toNat 0).int) - (10 : Int))) else (43 : Int))]])) else none else none) else some (.inr (wi0, wl0))
noncomputable def rsh_L2_c : Code := loopC Try.prog 21 2
set_option maxRecDepth 100000 in
theorem rsh_L2_ok (x0_0 : Int) (x0_1 : Int) (x0_2 x0_3 x0_4 x0_5 x0_6 x0_7 : List (List Ct)) (vi0 : Int) (vl0 : List (List Ct)) : ∀ v, StepOk Try.prog 6 rsh_L2_c (rsh_L2_S x0_0 x0_1 x0_2 x0_3 x0_4 x0_5 x0_6 x0_7 vi0 vl0) (rsh_L2_T x0_0 x0_1 x0_2 x0_3 x0_4 x0_5 x0_6 x0_7 vi0 vl0) v (rsh_L2_step x0_0 x0_6 vi0 v) := fun v => match v with | (wi0, wl0) => eng_step (C := (⟨consGlU, fun _ _ _ => none, fun f => false, noFacts, fun _ => 104⟩ : Cfg Try.prog)) noFacts_ok (n := 30) (f := 21) rsh_L2_rd (fun _ => rfl) (by kernel_rfl)
noncomputable def rsh_L2_p (x0_0 : Int) (x0_6 : List (List Ct)) (vi0 : Int) : Bool := (iter (rsh_L2_step x0_0 x0_6 vi0) 5001 (0, [])).isSome
noncomputable def rsh_L2_v (x0_0 : Int) (x0_6 : List (List Ct)) (vi0 : Int) : Int × List (List Ct) := loopRes (rsh_L2_step x0_0 x0_6 vi0) 5001 (0, [])
set_option maxRecDepth 100000 in
noncomputable def rsh_L2_lc (x0_0 : Int) (x0_1 : Int) (x0_2 x0_3 x0_4 x0_5 x0_6 x0_7 : List (List Ct)) (vi0 : Int) (vl0 : List (List Ct)) : LoopCon Try.prog := loopCon Try.prog 6 rsh_L2_c [(6, some 6), (7, some 7), (9, none)] (rsh_L2_S x0_0 x0_1 x0_2 x0_3 x0_4 x0_5 x0_6 x0_7 vi0 vl0) (rsh_L2_T x0_0 x0_1 x0_2 x0_3 x0_4 x0_5 x0_6 x0_7 vi0 vl0) 2 (rsh_L2_step x0_0 x0_6 vi0) (rsh_L2_ok x0_0 x0_1 x0_2 x0_3 x0_4 x0_5 x0_6 x0_7 vi0 vl0) 5001 (0, []) (rsh_L2_p x0_0 x0_6 vi0) rfl (rsh_L2_v x0_0 x0_6 vi0) rfl
noncomputable def rsh_L0_S (x0_0 : Int) (x0_1 : Int) (x0_2 x0_3 x0_4 x0_5 x0_6 x0_7 : List (List Ct)) (v : Int × List (List Ct)) : St := ⟨[.sv (.agg [.q x0_0, .q x0_1, .ext 0, .ext 1, .ext 2, .ext 3, .ext 4, .ext 5]), .o (.ptr 6 0), .o (.val true (Value.slice none 0 0)), .o (.ext 7), .o (.q v.1), .d, .d, .d, .d, .d, .d, .d, .d, .d, .d, .d, .d, .d, .d, .d, .d, .d, .d, .d, .d, .d, .d, .d, .d, .d, .d, .d, .d, .d, .d, .d, .d, .d, .d, .d, .d, .d, .d, .d, .d, .d, .d, .d, .d, .d, .d, .d, .d, .d, .d, .d, .d], [(0, .grid ([Sh.int IntKind.i64, Sh.int IntKind.i64, Sh.int IntKind.i64]) x0_2), (1, .grid ([Sh.int IntKind.i64]) x0_3), (2, .grid ([Sh.int IntKind.i64, Sh.int IntKind.i64, Sh.int IntKind.i64]) x0_4), (3, .grid ([Sh.int IntKind.i64, Sh.int IntKind.i64, Sh.int IntKind.i64]) x0_5), (4, .grid ([Sh.int IntKind.i64]) x0_6), (5, .grid ([Sh.int IntKind.i64]) x0_7), (6, .cells [.q x0_0, .q x0_1, .ext 0, .ext 1, .ext 2, .ext 3, .ext 4, .ext 5] 56), (7, .row ([Sh.str]) 9 v.2)], 8, []⟩
noncomputable def rsh_L0_T (x0_0 : Int) (x0_1 : Int) (x0_2 x0_3 x0_4 x0_5 x0_6 x0_7 : List (List Ct)) (v : Int × List (List Ct)) : Ex × St := ((.exit 0), ⟨(rsh_L0_S x0_0 x0_1 x0_2 x0_3 x0_4 x0_5 x0_6 x0_7 v).fr, (rsh_L0_S x0_0 x0_1 x0_2 x0_3 x0_4 x0_5 x0_6 x0_7 v).hp, 9, []⟩)
noncomputable def rsh_L0_rd (ex : Ex) (s : St) : Option ((Int × List (List Ct)) ⊕ (Int × List (List Ct))) × List (Nat × Option Nat) := match ex with
  | .normal => (some (.inl (rI (frC s 4 0), rL s (frC s 3 0))), [(6, some 6), rnOf 7 (frC s 3 0)])
  | .exit i => bif Nat.beq i 0 then (some (.inr (rI (frC s 4 0), rL s (frC s 3 0))), [(6, some 6), (7, some 7)]) else (none, [])
  | _ => (none, [])
noncomputable def rsh_L0_step (x0_0 : Int) (x0_1 : Int) (x0_6 : List (List Ct)) : (Int × List (List Ct)) → Option ((Int × List (List Ct)) ⊕ (Int × List (List Ct))) := fun v => match v with
  | (vi0, vl0) => bif (decide (vi0 < x0_1)) then (bif (rsh_L2_p x0_0 x0_6 vi0) then bif true then bif (decide (vl0.length + [[Ct.s (strOf (rsh_L2_v x0_0 x0_6 vi0).snd)]].length ≤ 9223372036854775807 ∧ (vl0.length + [[Ct.s (strOf (rsh_L2_v x0_0 x0_6 vi0).snd)]].length) * 16 ≤ 140737488355328)) then some (.inl (IntKind.i64.wrap (vi0 + (1 : Int)), vl0 ++ [[Ct.s (strOf (rsh_L2_v x0_0 x0_6 vi0).snd)]])) else none else none else none) else some (.inr (vi0, vl0))
noncomputable def rsh_L0_c : Code := loopC Try.prog 21 0
set_option maxRecDepth 100000 in
theorem rsh_L0_ok (x0_0 : Int) (x0_1 : Int) (x0_2 x0_3 x0_4 x0_5 x0_6 x0_7 : List (List Ct)) : ∀ v, StepOk Try.prog 6 rsh_L0_c (rsh_L0_S x0_0 x0_1 x0_2 x0_3 x0_4 x0_5 x0_6 x0_7) (rsh_L0_T x0_0 x0_1 x0_2 x0_3 x0_4 x0_5 x0_6 x0_7) v (rsh_L0_step x0_0 x0_1 x0_6 v) := fun v => match v with | (vi0, vl0) => eng_step (C := (⟨consGlU, fun f id nx => bif Nat.beq f 21 then (bif Nat.beq id 2 then some (rsh_L2_lc x0_0 x0_1 x0_2 x0_3 x0_4 x0_5 x0_6 x0_7 vi0 vl0) else none) else none, fun f => false, noFacts, fun _ => 104⟩ : Cfg Try.prog)) noFacts_ok (n := 30) (f := 21) rsh_L0_rd (fun _ => rfl) (by kernel_rfl)
noncomputable def rsh_L0_p (x0_0 : Int) (x0_1 : Int) (x0_6 : List (List Ct)) : Bool := (iter (rsh_L0_step x0_0 x0_1 x0_6) 5001 (0, [])).isSome
noncomputable def rsh_L0_v (x0_0 : Int) (x0_1 : Int) (x0_6 : List (List Ct)) : Int × List (List Ct) := loopRes (rsh_L0_step x0_0 x0_1 x0_6) 5001 (0, [])
set_option maxRecDepth 100000 in
noncomputable def rsh_L0_lc (x0_0 : Int) (x0_1 : Int) (x0_2 x0_3 x0_4 x0_5 x0_6 x0_7 : List (List Ct)) : LoopCon Try.prog := loopCon Try.prog 6 rsh_L0_c [(6, some 6), (7, none)] (rsh_L0_S x0_0 x0_1 x0_2 x0_3 x0_4 x0_5 x0_6 x0_7) (rsh_L0_T x0_0 x0_1 x0_2 x0_3 x0_4 x0_5 x0_6 x0_7) 0 (rsh_L0_step x0_0 x0_1 x0_6) (rsh_L0_ok x0_0 x0_1 x0_2 x0_3 x0_4 x0_5 x0_6 x0_7) 5001 (0, []) (rsh_L0_p x0_0 x0_1 x0_6) rfl (rsh_L0_v x0_0 x0_1 x0_6) rfl
noncomputable def rsh_O (v : List (List Ct)) : Out := ⟨.sv (.one (.ext 7)), [(7, .row ([Sh.str]) 9 v)], 9, []⟩
noncomputable def rsh_rd (out : Out) : Option (List (List Ct)) := some (hpL' out.up 7)
noncomputable def rsh_res (x0_0 : Int) (x0_1 : Int) (x0_6 : List (List Ct)) : Option (List (List Ct)) := bif (rsh_L0_p x0_0 x0_1 x0_6) then some ((rsh_L0_v x0_0 x0_1 x0_6).snd) else none
set_option maxRecDepth 100000 in
theorem rsh_tree {x0_0 : Int} {x0_1 : Int} {x0_2 x0_3 x0_4 x0_5 x0_6 x0_7 v : List (List Ct)} (h : rsh_res x0_0 x0_1 x0_6 = some v) : CallOk Try.prog 21 [.sv (.agg [.val false (.int .i64 x0_0), .val false (.int .i64 x0_1), .ext 0, .ext 1, .ext 2, .ext 3, .ext 4, .ext 5])] [(0, .grid [.int .i64, .int .i64, .int .i64] x0_2), (1, .grid [.int .i64] x0_3), (2, .grid [.int .i64, .int .i64, .int .i64] x0_4), (3, .grid [.int .i64, .int .i64, .int .i64] x0_5), (4, .grid [.int .i64] x0_6), (5, .grid [.int .i64] x0_7)] 6 (rsh_O v) :=
  eng_tree (C := (⟨consGlU, fun f id nx => bif Nat.beq f 21 then (bif Nat.beq id 0 then some (rsh_L0_lc x0_0 x0_1 x0_2 x0_3 x0_4 x0_5 x0_6 x0_7) else none) else none, fun f => false, noFacts, fun _ => 104⟩ : Cfg Try.prog)) noFacts_ok (n := 30) (f := 21) rsh_O rsh_rd rfl (by kernel_rfl) h
noncomputable def rsh_v (x0_0 : Int) (x0_1 : Int) (x0_6 : List (List Ct)) : List (List Ct) := (rsh_res x0_0 x0_1 x0_6).getD default
theorem rsh_spec (x0_0 : Int) (x0_1 : Int) (x0_6 : List (List Ct)) (h : ((rsh_res x0_0 x0_1 x0_6).isSome) = true) : rsh_res x0_0 x0_1 x0_6 = some (rsh_v x0_0 x0_1 x0_6) := opt_get h
noncomputable def rsh_m (args : List RV) (hp : Hp) : Option ((Int × Int × List (List Ct) × List (List Ct) × List (List Ct) × List (List Ct) × List (List Ct) × List (List Ct)) × List Nat) := match args with
  | [.sv (.agg [.val _ (.int .i64 x0_0), .val _ (.int .i64 x0_1), .ext i0, .ext i1, .ext i2, .ext i3, .ext i4, .ext i5])] => (match gridAt hp i0 [.int .i64, .int .i64, .int .i64], gridAt hp i1 [.int .i64], gridAt hp i2 [.int .i64, .int .i64, .int .i64], gridAt hp i3 [.int .i64, .int .i64, .int .i64], gridAt hp i4 [.int .i64], gridAt hp i5 [.int .i64] with
    | some x0_2, some x0_3, some x0_4, some x0_5, some x0_6, some x0_7 => some ((x0_0, x0_1, x0_2, x0_3, x0_4, x0_5, x0_6, x0_7), [i0, i1, i2, i3, i4, i5])
    | _, _, _, _, _, _ => none)
  | _ => none
noncomputable def rsh_con : Con Try.prog := conX Try.prog 21 rsh_m 6 (fun x => [.sv (.agg [.val false (.int .i64 x.1), .val false (.int .i64 x.2.1), .ext 0, .ext 1, .ext 2, .ext 3, .ext 4, .ext 5])]) (fun x => [(0, .grid [.int .i64, .int .i64, .int .i64] x.2.2.1), (1, .grid [.int .i64] x.2.2.2.1), (2, .grid [.int .i64, .int .i64, .int .i64] x.2.2.2.2.1), (3, .grid [.int .i64, .int .i64, .int .i64] x.2.2.2.2.2.1), (4, .grid [.int .i64] x.2.2.2.2.2.2.1), (5, .grid [.int .i64] x.2.2.2.2.2.2.2)]) (fun x => some ((rsh_res x.1 x.2.1 x.2.2.2.2.2.2.1).isSome)) (fun x => rsh_O (rsh_v x.1 x.2.1 x.2.2.2.2.2.2.1))
  (by
    intro args hp x r h
    unfold rsh_m at h
    split at h
    · split at h
      · rename_i g0 g1 g2 g3 g4 g5
        cases h
        refine ⟨rfl, fun nx => ⟨rfl, ?_, ?_⟩⟩
        · intro i hi
          simp only [List.mem_cons, List.not_mem_nil, or_false] at hi
          rcases hi with rfl | rfl | rfl | rfl | rfl | rfl
          · exact ⟨_, List.mem_of_getElem? (i := 0) rfl, .inl (by simp [RV.ids, SV.ids, CV.ids])⟩
          · exact ⟨_, List.mem_of_getElem? (i := 0) rfl, .inl (by simp [RV.ids, SV.ids, CV.ids])⟩
          · exact ⟨_, List.mem_of_getElem? (i := 0) rfl, .inl (by simp [RV.ids, SV.ids, CV.ids])⟩
          · exact ⟨_, List.mem_of_getElem? (i := 0) rfl, .inl (by simp [RV.ids, SV.ids, CV.ids])⟩
          · exact ⟨_, List.mem_of_getElem? (i := 0) rfl, .inl (by simp [RV.ids, SV.ids, CV.ids])⟩
          · exact ⟨_, List.mem_of_getElem? (i := 0) rfl, .inl (by simp [RV.ids, SV.ids, CV.ids])⟩
        · intro id o0 ho
          have := hlook_mem ho
          simp only [List.mem_cons, Prod.mk.injEq, List.not_mem_nil, or_false] at this
          rcases this with ⟨rfl, rfl⟩ | ⟨rfl, rfl⟩ | ⟨rfl, rfl⟩ | ⟨rfl, rfl⟩ | ⟨rfl, rfl⟩ | ⟨rfl, rfl⟩
          · exact ⟨_, gridAt_spec g0, rfl⟩
          · exact ⟨_, gridAt_spec g1, rfl⟩
          · exact ⟨_, gridAt_spec g2, rfl⟩
          · exact ⟨_, gridAt_spec g3, rfl⟩
          · exact ⟨_, gridAt_spec g4, rfl⟩
          · exact ⟨_, gridAt_spec g5, rfl⟩
      · cases h
    · cases h)
  (fun x h => ⟨rfl, rfl, rsh_tree (rsh_spec x.1 x.2.1 x.2.2.2.2.2.2.1 (h _ rfl))⟩)

noncomputable def rfl_L2_S (x0_0 : Int) (x0_1 : Int) (x0_2 x0_3 x0_4 x0_5 x0_6 x0_7 : List (List Ct)) (vi0 : Int) (vl0 : List (List Ct)) (v : Int × List (List Ct)) : St := ⟨[.sv (.agg [.q x0_0, .q x0_1, .ext 0, .ext 1, .ext 2, .ext 3, .ext 4, .ext 5]), .o (.ptr 6 0), .o (.val true (Value.slice none 0 0)), .o (.ext 7), .o (.q vi0), .o (.ext 9), .o (.q v.1), .d, .d, .d, .d, .o (.q vi0), .o (.ptr 6 0), .o (.ptr 6 1), .o (.q x0_1), .o (.val true (.bool true)), .d, .d, .d, .d, .d, .d, .d, .d, .d, .d, .d, .d, .d, .d, .d, .d, .d, .d, .d, .d, .d, .d, .d, .d, .d, .d, .d, .d, .d, .d, .d, .d, .d, .d, .d, .d, .d, .d, .d, .d, .d, .d, .d, .d, .d, .d, .d, .d, .d, .d, .d, .d, .d, .d, .d, .d, .d, .d, .d, .d, .d, .d, .d, .d, .d], [(0, .grid ([Sh.int IntKind.i64, Sh.int IntKind.i64, Sh.int IntKind.i64]) x0_2), (1, .grid ([Sh.int IntKind.i64]) x0_3), (2, .grid ([Sh.int IntKind.i64, Sh.int IntKind.i64, Sh.int IntKind.i64]) x0_4), (3, .grid ([Sh.int IntKind.i64, Sh.int IntKind.i64, Sh.int IntKind.i64]) x0_5), (4, .grid ([Sh.int IntKind.i64]) x0_6), (5, .grid ([Sh.int IntKind.i64]) x0_7), (6, .cells [.q x0_0, .q x0_1, .ext 0, .ext 1, .ext 2, .ext 3, .ext 4, .ext 5] 56), (7, .row ([Sh.str]) 9 vl0), (9, .row ([Sh.int IntKind.u8]) 5 v.2)], 10, []⟩
noncomputable def rfl_L2_T (x0_0 : Int) (x0_1 : Int) (x0_2 x0_3 x0_4 x0_5 x0_6 x0_7 : List (List Ct)) (vi0 : Int) (vl0 : List (List Ct)) (v : Int × List (List Ct)) : Ex × St := ((.exit 2), ⟨(rfl_L2_S x0_0 x0_1 x0_2 x0_3 x0_4 x0_5 x0_6 x0_7 vi0 vl0 v).fr, (rfl_L2_S x0_0 x0_1 x0_2 x0_3 x0_4 x0_5 x0_6 x0_7 vi0 vl0 v).hp, 11, []⟩)
noncomputable def rfl_L2_rd (ex : Ex) (s : St) : Option ((Int × List (List Ct)) ⊕ (Int × List (List Ct))) × List (Nat × Option Nat) := match ex with
  | .normal => (some (.inl (rI (frC s 6 0), rL s (frC s 5 0))), [(6, some 6), (7, some 7), rnOf 9 (frC s 5 0)])
  | .exit i => bif Nat.beq i 2 then (some (.inr (rI (frC s 6 0), rL s (frC s 5 0))), [(6, some 6), (7, some 7), (9, some 9)]) else (none, [])
  | _ => (none, [])
noncomputable def rfl_L2_step (x0_0 : Int) (x0_7 : List (List Ct)) (vi0 : Int) : (Int × List (List Ct)) → Option ((Int × List (List Ct)) ⊕ (Int × List (List Ct))) := fun v => match v with
  | (wi0, wl0) => bif (decide (wi0 < x0_0)) then (bif (decide ((0 : Int) ≤ IntKind.i64.wrap (IntKind.i64.wrap (vi0 * x0_0) + wi0) ∧ IntKind.i64.wrap (IntKind.i64.wrap (vi0 * x0_0) + wi0) < (↑x0_7.length : Int))) then bif (decide ((rd x0_7 (IntKind.i64.wrap (IntKind.i64.wrap (vi0 * x0_0) + wi0)).toNat 0).int ≥ (0 : Int))) then (bif (decide (x0_0 ≠ (0 : Int))) then bif (decide (x0_0 ≠ (0 : Int))) then bif (decide (wl0.length + [[Ct.i (bif bif IntKind.i64.wrap ((rd x0_7 (IntKind.i64.wrap (IntKind.i64.wrap (vi0 * x0_0) + wi0)).toNat 0).int.tmod x0_0 - wi0) == (0 : Int) then IntKind.i64.wrap (IntKind.i64.wrap ((rd x0_7 (IntKind.i64.wrap (IntKind.i64.wrap (vi0 * x0_0) + wi0)).toNat 0).int.tdiv x0_0) - vi0) == (0 : Int) else false then (111 : Int) else bif IntKind.i64.wrap ((rd x0_7 (IntKind.i64.wrap (IntKind.i64.wrap (vi0 * x0_0) + wi0)).toNat 0).int.tmod x0_0 - wi0) == (0 : Int) then (124 : Int) else bif IntKind.i64.wrap (IntKind.i64.wrap ((rd x0_7 (IntKind.i64.wrap (IntKind.i64.wrap (vi0 * x0_0) + wi0)).toNat 0).int.tdiv x0_0) - vi0) == (0 : Int) then (45 : Int) else bif decide (IntKind.i64.wrap ((rd x0_7 (IntKind.i64.wrap (IntKind.i64.wrap (vi0 * x0_0) + wi0)).toNat 0).int.tmod x0_0 - wi0) < (0 : Int)) == decide (IntKind.i64.wrap (IntKind.i64.wrap ((rd x0_7 (IntKind.i64.wrap (IntKind.i64.wrap (vi0 * x0_0) + wi0)).toNat 0).int.tdiv x0_0) - vi0) < (0 : Int)) then (92 : Int) else (47 : Int))]].length ≤ 9223372036854775807 ∧ (wl0.length + [[Ct.i (bif bif IntKind.i64.wrap ((rd x0_7 (IntKind.i64.wrap (IntKind.i64.wrap (vi0 * x0_0) + wi0)).toNat 0).int.tmod x0_0 - wi0) == (0 : Int) then IntKind.i64.wrap (IntKind.i64.wrap ((rd x0_7 (IntKind.i64.wrap (IntKind.i64.wrap (vi0 * x0_0) + wi0)).toNat 0).int.tdiv x0_0) - vi0) == (0 : Int) else false then (111 : Int) else bif IntKind.i64.wrap ((rd x0_7 (IntKind.i64.wrap (IntKind.i64.wrap (vi0 * x0_0) + wi0)).toNat 0).int.tmod x0_0 - wi0) == (0 : Int) then (124 : Int) else bif IntKind.i64.wrap (IntKind.i64.wrap ((rd x0_7 (IntKind.i64.wrap (IntKind.i64.wrap (vi0 * x0_0) + wi0)).toNat 0).int.tdiv x0_0) - vi0) == (0 : Int) then (45 : Int) else bif decide (IntKind.i64.wrap ((rd x0_7 (IntKind.i64.wrap (IntKind.i64.wrap (vi0 * x0_0) + wi0)).toNat 0).int.tmod x0_0 - wi0) < (0 : Int)) == decide (IntKind.i64.wrap (IntKind.i64.wrap ((rd x0_7 (IntKind.i64.wrap (IntKind.i64.wrap (vi0 * x0_0) + wi0)).toNat 0).int.tdiv x0_0) - vi0) < (0 : Int)) then (92 : Int) else (47 : Int))]].length) * 1 ≤ 140737488355328)) then some (.inl (IntKind.i64.wrap (wi0 + (1 : Int)), wl0 ++ [[Ct.i (bif bif IntKind.i64.wrap ((rd x0_7 (IntKind.i64.wrap (IntKind.i64.wrap (vi0 * x0_0) + wi0)).toNat 0).int.tmod x0_0 - wi0) == (0 : Int) then IntKind.i64.wrap (IntKind.i64.wrap ((rd x0_7 (IntKind.i64.wrap (IntKind.i64.wrap (vi0 * x0_0) + wi0)).toNat 0).int.tdiv x0_0) - vi0) == (0 : Int) else false then (111 : Int) else bif IntKind.i64.wrap ((rd x0_7 (IntKind.i64.wrap (IntKind.i64.wrap (vi0 * x0_0) + wi0)).toNat 0).int.tmod x0_0 - wi0) == (0 : Int) then (124 : Int) else bif IntKind.i64.wrap (IntKind.i64.wrap ((rd x0_7 (IntKind.i64.wrap (IntKind.i64.wrap (vi0 * x0_0) + wi0)).toNat 0).int.tdiv x0_0) - vi0) == (0 : Int) then (45 : Int) else bif decide (IntKind.i64.wrap ((rd x0_7 (IntKind.i64.wrap (IntKind.i64.wrap (vi0 * x0_0) + wi0)).toNat 0).int.tmod x0_0 - wi0) < (0 : Int)) == decide (IntKind.i64.wrap (IntKind.i64.wrap ((rd x0_7 (IntKind.i64.wrap (IntKind.i64.wrap (vi0 * x0_0) + wi0)).toNat 0).int.tdiv x0_0) - vi0) < (0 : Int)) then (92 : Int) else (47 : Int))]])) else none else none else none) else bif (decide (wl0.length + [[Ct.i (46 : Int)]].length ≤ 9223372036854775807 ∧ (wl0.length + [[Ct.i (46 : Int)]].length) * 1 ≤ 140737488355328)) then some (.inl (IntKind.i64.wrap (wi0 + (1 : Int)), wl0 ++ [[Ct.i (46 : Int)]])) else none else none) else some (.inr (wi0, wl0))
noncomputable def rfl_L2_c : Code := loopC Try.prog 22 2
set_option maxRecDepth 100000 in
theorem rfl_L2_ok (x0_0 : Int) (x0_1 : Int) (x0_2 x0_3 x0_4 x0_5 x0_6 x0_7 : List (List Ct)) (vi0 : Int) (vl0 : List (List Ct)) : ∀ v, StepOk Try.prog 6 rfl_L2_c (rfl_L2_S x0_0 x0_1 x0_2 x0_3 x0_4 x0_5 x0_6 x0_7 vi0 vl0) (rfl_L2_T x0_0 x0_1 x0_2 x0_3 x0_4 x0_5 x0_6 x0_7 vi0 vl0) v (rfl_L2_step x0_0 x0_7 vi0 v) := fun v => match v with | (wi0, wl0) => eng_step (C := (⟨consGlU, fun _ _ _ => none, fun f => false, noFacts, fun _ => 104⟩ : Cfg Try.prog)) noFacts_ok (n := 30) (f := 22) rfl_L2_rd (fun _ => rfl) (by kernel_rfl)
noncomputable def rfl_L2_p (x0_0 : Int) (x0_7 : List (List Ct)) (vi0 : Int) : Bool := (iter (rfl_L2_step x0_0 x0_7 vi0) 5001 (0, [])).isSome
noncomputable def rfl_L2_v (x0_0 : Int) (x0_7 : List (List Ct)) (vi0 : Int) : Int × List (List Ct) := loopRes (rfl_L2_step x0_0 x0_7 vi0) 5001 (0, [])
set_option maxRecDepth 100000 in
noncomputable def rfl_L2_lc (x0_0 : Int) (x0_1 : Int) (x0_2 x0_3 x0_4 x0_5 x0_6 x0_7 : List (List Ct)) (vi0 : Int) (vl0 : List (List Ct)) : LoopCon Try.prog := loopCon Try.prog 6 rfl_L2_c [(6, some 6), (7, some 7), (9, none)] (rfl_L2_S x0_0 x0_1 x0_2 x0_3 x0_4 x0_5 x0_6 x0_7 vi0 vl0) (rfl_L2_T x0_0 x0_1 x0_2 x0_3 x0_4 x0_5 x0_6 x0_7 vi0 vl0) 2 (rfl_L2_step x0_0 x0_7 vi0) (rfl_L2_ok x0_0 x0_1 x0_2 x0_3 x0_4 x0_5 x0_6 x0_7 vi0 vl0) 5001 (0, []) (rfl_L2_p x0_0 x0_7 vi0) rfl (rfl_L2_v x0_0 x0_7 vi0) rfl
noncomputable def rfl_L0_S (x0_0 : Int) (x0_1 : Int) (x0_2 x0_3 x0_4 x0_5 x0_6 x0_7 : List (List Ct)) (v : Int × List (List Ct)) : St := ⟨[.sv (.agg [.q x0_0, .q x0_1, .ext 0, .ext 1, .ext 2, .ext 3, .ext 4, .ext 5]), .o (.ptr 6 0), .o (.val true (Value.slice none 0 0)), .o (.ext 7), .o (.q v.1), .d, .d, .d, .d, .d, .d, .d, .d, .d, .d, .d, .d, .d, .d, .d, .d, .d, .d, .d, .d, .d, .d, .d, .d, .d, .d, .d, .d, .d, .d, .d, .d, .d, .d, .d, .d, .d, .d, .d, .d, .d, .d, .d, .d, .d, .d, .d, .d, .d, .d, .d, .d, .d, .d, .d, .d, .d, .d, .d, .d, .d, .d, .d, .d, .d, .d, .d, .d, .d, .d, .d, .d, .d, .d, .d, .d], [(0, .grid ([Sh.int IntKind.i64, Sh.int IntKind.i64, Sh.int IntKind.i64]) x0_2), (1, .grid ([Sh.int IntKind.i64]) x0_3), (2, .grid ([Sh.int IntKind.i64, Sh.int IntKind.i64, Sh.int IntKind.i64]) x0_4), (3, .grid ([Sh.int IntKind.i64, Sh.int IntKind.i64, Sh.int IntKind.i64]) x0_5), (4, .grid ([Sh.int IntKind.i64]) x0_6), (5, .grid ([Sh.int IntKind.i64]) x0_7), (6, .cells [.q x0_0, .q x0_1, .ext 0, .ext 1, .ext 2, .ext 3, .ext 4, .ext 5] 56), (7, .row ([Sh.str]) 9 v.2)], 8, []⟩
noncomputable def rfl_L0_T (x0_0 : Int) (x0_1 : Int) (x0_2 x0_3 x0_4 x0_5 x0_6 x0_7 : List (List Ct)) (v : Int × List (List Ct)) : Ex × St := ((.exit 0), ⟨(rfl_L0_S x0_0 x0_1 x0_2 x0_3 x0_4 x0_5 x0_6 x0_7 v).fr, (rfl_L0_S x0_0 x0_1 x0_2 x0_3 x0_4 x0_5 x0_6 x0_7 v).hp, 9, []⟩)
noncomputable def rfl_L0_rd (ex : Ex) (s : St) : Option ((Int × List (List Ct)) ⊕ (Int × List (List Ct))) × List (Nat × Option Nat) := match ex with
  | .normal => (some (.inl (rI (frC s 4 0), rL s (frC s 3 0))), [(6, some 6), rnOf 7 (frC s 3 0)])
  | .exit i => bif Nat.beq i 0 then (some (.inr (rI (frC s 4 0), rL s (frC s 3 0))), [(6, some 6), (7, some 7)]) else (none, [])
  | _ => (none, [])
noncomputable def rfl_L0_step (x0_0 : Int) (x0_1 : Int) (x0_7 : List (List Ct)) : (Int × List (List Ct)) → Option ((Int × List (List Ct)) ⊕ (Int × List (List Ct))) := fun v => match v with
  | (vi0, vl0) => bif (decide (vi0 < x0_1)) then (bif (rfl_L2_p x0_0 x0_7 vi0) then bif true then bif (decide (vl0.length + [[Ct.s (strOf (rfl_L2_v x0_0 x0_7 vi0).snd)]].length ≤ 9223372036854775807 ∧ (vl0.length + [[Ct.s (strOf (rfl_L2_v x0_0 x0_7 vi0).snd)]].length) * 16 ≤ 140737488355328)) then some (.inl (IntKind.i64.wrap (vi0 + (1 : Int)), vl0 ++ [[Ct.s (strOf (rfl_L2_v x0_0 x0_7 vi0).snd)]])) else none else none else none) else some (.inr (vi0, vl0))
noncomputable def rfl_L0_c : Code := loopC Try.prog 22 0
set_option maxRecDepth 100000 in
theorem rfl_L0_ok (x0_0 : Int) (x0_1 : Int) (x0_2 x0_3 x0_4 x0_5 x0_6 x0_7 : List (List Ct)) : ∀ v, StepOk Try.prog 6 rfl_L0_c (rfl_L0_S x0_0 x0_1 x0_2 x0_3 x0_4 x0_5 x0_6 x0_7) (rfl_L0_T x0_0 x0_1 x0_2 x0_3 x0_4 x0_5 x0_6 x0_7) v (rfl_L0_step x0_0 x0_1 x0_7 v) := fun v => match v with | (vi0, vl0) => eng_step (C := (⟨consGlU, fun f id nx => bif Nat.beq f 22 then (bif Nat.beq id 2 then some (rfl_L2_lc x0_0 x0_1 x0_2 x0_3 x0_4 x0_5 x0_6 x0_7 vi0 vl0) else none) else none, fun f => false, noFacts, fun _ => 104⟩ : Cfg Try.prog)) noFacts_ok (n := 30) (f := 22) rfl_L0_rd (fun _ => rfl) (by kernel_rfl)
noncomputable def rfl_L0_p (x0_0 : Int) (x0_1 : Int) (x0_7 : List (List Ct)) : Bool := (iter (rfl_L0_step x0_0 x0_1 x0_7) 5001 (0, [])).isSome
noncomputable def rfl_L0_v (x0_0 : Int) (x0_1 : Int) (x0_7 : List (List Ct)) : Int × List (List Ct) := loopRes (rfl_L0_step x0_0 x0_1 x0_7) 5001 (0, [])
set_option maxRecDepth 100000 in
noncomputable def rfl_L0_lc (x0_0 : Int) (x0_1 : Int) (x0_2 x0_3 x0_4 x0_5 x0_6 x0_7 : List (List Ct)) : LoopCon Try.prog := loopCon Try.prog 6 rfl_L0_c [(6, some 6), (7, none)] (rfl_L0_S x0_0 x0_1 x0_2 x0_3 x0_4 x0_5 x0_6 x0_7) (rfl_L0_T x0_0 x0_1 x0_2 x0_3 x0_4 x0_5 x0_6 x0_7) 0 (rfl_L0_step x0_0 x0_1 x0_7) (rfl_L0_ok x0_0 x0_1 x0_2 x0_3 x0_4 x0_5 x0_6 x0_7) 5001 (0, []) (rfl_L0_p x0_0 x0_1 x0_7) rfl (rfl_L0_v x0_0 x0_1 x0_7) rfl
noncomputable def rfl_O (v : List (List Ct)) : Out := ⟨.sv (.one (.ext 7)), [(7, .row ([Sh.str]) 9 v)], 9, []⟩
noncomputable def rfl_rd (out : Out) : Option (List (List Ct)) := some (hpL' out.up 7)
noncomputable def rfl_res (x0_0 : Int) (x0_1 : Int) (x0_7 : List (List Ct)) : Option (List (List Ct)) := bif (rfl_L0_p x0_0 x0_1 x0_7) then some ((rfl_L0_v x0_0 x0_1 x0_7).snd) else none
set_option maxRecDepth 100000 in
theorem rfl_tree {x0_0 : Int} {x0_1 : Int} {x0_2 x0_3 x0_4 x0_5 x0_6 x0_7 v : List (List Ct)} (h : rfl_res x0_0 x0_1 x0_7 = some v) : CallOk Try.prog 22 [.sv (.agg [.val false (.int .i64 x0_0), .val false (.int .i64 x0_1), .ext 0, .ext 1, .ext 2, .ext 3, .ext 4, .ext 5])] [(0, .grid [.int .i64, .int .i64, .int .i64] x0_2), (1, .grid [.int .i64] x0_3), (2, .grid [.int .i64, .int .i64, .int .i64] x0_4), (3, .grid [.int .i64, .int .i64, .int .i64] x0_5), (4, .grid [.int .i64] x0_6), (5, .grid [.int .i64] x0_7)] 6 (rfl_O v) :=
  eng_tree (C := (⟨consGlU, fun f id nx => bif Nat.beq f 22 then (bif Nat.beq id 0 then some (rfl_L0_lc x0_0 x0_1 x0_2 x0_3 x0_4 x0_5 x0_6 x0_7) else none) else none, fun f => false, noFacts, fun _ => 104⟩ : Cfg Try.prog)) noFacts_ok (n := 30) (f := 22) rfl_O rfl_rd rfl (by kernel_rfl) h
noncomputable def rfl_v (x0_0 : Int) (x0_1 : Int) (x0_7 : List (List Ct)) : List (List Ct) := (rfl_res x0_0 x0_1 x0_7).getD default
theorem rfl_spec (x0_0 : Int) (x0_1 : Int) (x0_7 : List (List Ct)) (h : ((rfl_res x0_0 x0_1 x0_7).isSome) = true) : rfl_res x0_0 x0_1 x0_7 = some (rfl_v x0_0 x0_1 x0_7) := opt_get h
noncomputable def rfl_m (args : List RV) (hp : Hp) : Option ((Int × Int × List (List Ct) × List (List Ct) × List (List Ct) × List (List Ct) × List (List Ct) × List (List Ct)) × List Nat) := match args with
  | [.sv (.agg [.val _ (.int .i64 x0_0), .val _ (.int .i64 x0_1), .ext i0, .ext i1, .ext i2, .ext i3, .ext i4, .ext i5])] => (match gridAt hp i0 [.int .i64, .int .i64, .int .i64], gridAt hp i1 [.int .i64], gridAt hp i2 [.int .i64, .int .i64, .int .i64], gridAt hp i3 [.int .i64, .int .i64, .int .i64], gridAt hp i4 [.int .i64], gridAt hp i5 [.int .i64] with
    | some x0_2, some x0_3, some x0_4, some x0_5, some x0_6, some x0_7 => some ((x0_0, x0_1, x0_2, x0_3, x0_4, x0_5, x0_6, x0_7), [i0, i1, i2, i3, i4, i5])
    | _, _, _, _, _, _ => none)
  | _ => none
noncomputable def rfl_con : Con Try.prog := conX Try.prog 22 rfl_m 6 (fun x => [.sv (.agg [.val false (.int .i64 x.1), .val false (.int .i64 x.2.1), .ext 0, .ext 1, .ext 2, .ext 3, .ext 4, .ext 5])]) (fun x => [(0, .grid [.int .i64, .int .i64, .int .i64] x.2.2.1), (1, .grid [.int .i64] x.2.2.2.1), (2, .grid [.int .i64, .int .i64, .int .i64] x.2.2.2.2.1), (3, .grid [.int .i64, .int .i64, .int .i64] x.2.2.2.2.2.1), (4, .grid [.int .i64] x.2.2.2.2.2.2.1), (5, .grid [.int .i64] x.2.2.2.2.2.2.2)]) (fun x => some ((rfl_res x.1 x.2.1 x.2.2.2.2.2.2.2).isSome)) (fun x => rfl_O (rfl_v x.1 x.2.1 x.2.2.2.2.2.2.2))
  (by
    intro args hp x r h
    unfold rfl_m at h
    split at h
    · split at h
      · rename_i g0 g1 g2 g3 g4 g5
        cases h
        refine ⟨rfl, fun nx => ⟨rfl, ?_, ?_⟩⟩
        · intro i hi
          simp only [List.mem_cons, List.not_mem_nil, or_false] at hi
          rcases hi with rfl | rfl | rfl | rfl | rfl | rfl
          · exact ⟨_, List.mem_of_getElem? (i := 0) rfl, .inl (by simp [RV.ids, SV.ids, CV.ids])⟩
          · exact ⟨_, List.mem_of_getElem? (i := 0) rfl, .inl (by simp [RV.ids, SV.ids, CV.ids])⟩
          · exact ⟨_, List.mem_of_getElem? (i := 0) rfl, .inl (by simp [RV.ids, SV.ids, CV.ids])⟩
          · exact ⟨_, List.mem_of_getElem? (i := 0) rfl, .inl (by simp [RV.ids, SV.ids, CV.ids])⟩
          · exact ⟨_, List.mem_of_getElem? (i := 0) rfl, .inl (by simp [RV.ids, SV.ids, CV.ids])⟩
          · exact ⟨_, List.mem_of_getElem? (i := 0) rfl, .inl (by simp [RV.ids, SV.ids, CV.ids])⟩
        · intro id o0 ho
          have := hlook_mem ho
          simp only [List.mem_cons, Prod.mk.injEq, List.not_mem_nil, or_false] at this
          rcases this with ⟨rfl, rfl⟩ | ⟨rfl, rfl⟩ | ⟨rfl, rfl⟩ | ⟨rfl, rfl⟩ | ⟨rfl, rfl⟩ | ⟨rfl, rfl⟩
          · exact ⟨_, gridAt_spec g0, rfl⟩
          · exact ⟨_, gridAt_spec g1, rfl⟩
          · exact ⟨_, gridAt_spec g2, rfl⟩
          · exact ⟨_, gridAt_spec g3, rfl⟩
          · exact ⟨_, gridAt_spec g4, rfl⟩
          · exact ⟨_, gridAt_spec g5, rfl⟩
      · cases h
    · cases h)
  (fun x h => ⟨rfl, rfl, rfl_tree (rfl_spec x.1 x.2.1 x.2.2.2.2.2.2.2 (h _ rfl))⟩)
noncomputable def consGlY : List (Con Try.prog) := [rsh_con, rfl_con] ++ consGlU
end Go.Proofs.Ytjjijaeoafeocaa
