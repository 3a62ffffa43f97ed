/- Tracks to and fro, small scenes. No condition. -/
import Derived.Test.YtcpbiijegbbafaaEngScene2
set_option linter.unusedVariables false
set_option linter.unusedSimpArgs false
namespace Go.Proofs.Ytcpbiijegbbafaa
open Go.RowKit

noncomputable def tky_L0_S (x0 : List (List Ct)) (v : Int × List (List Ct)) : St := ⟨[.o (.ext 0), .d, .o (.val true (Value.slice none 0 0)), .o (.ext 1), .d, .d, .o (.ext 0), .o (.q (↑x0.length : Int)), .o (.q v.1), .d, .d, .d, .d, .d, .d, .d, .d, .d, .d, .d, .d, .d, .d], [(0, .grid ([Sh.int IntKind.i64, Sh.int IntKind.i64, Sh.int IntKind.i64, Sh.int IntKind.i64]) x0), (1, .row ([[[Sh.int IntKind.i64], [Sh.int IntKind.i64], [Sh.int IntKind.i64]].reverse.flatten, [Sh.int IntKind.i64]].reverse.flatten) 189 v.2)], 2, []⟩
noncomputable def tky_L0_T (x0 : List (List Ct)) (v : Int × List (List Ct)) : Ex × St := ((.exit 0), ⟨(tky_L0_S x0 v).fr, (tky_L0_S x0 v).hp, 3, []⟩)
noncomputable def tky_L0_rd (ex : Ex) (s : St) : Option ((Int × List (List Ct)) ⊕ (Int × List (List Ct))) × List (Nat × Option Nat) := match ex with
  | .normal => (some (.inl (rI (frC s 8 0), rL s (frC s 3 0))), [rnOf 1 (frC s 3 0)])
  | .exit i => bif Nat.beq i 0 then (some (.inr (rI (frC s 8 0), rL s (frC s 3 0))), [(1, some 1)]) else (none, [])
  | _ => (none, [])
noncomputable def tky_L0_step (x0 : List (List Ct)) : (Int × List (List Ct)) → Option ((Int × List (List Ct)) ⊕ (Int × List (List Ct))) := fun v => match v with
  | (vi0, vl0) => bif (decide (vi0 < (↑x0.length : Int))) then (bif (decide ((0 : Int) ≤ vi0 ∧ vi0 < (↑x0.length : Int))) then bif (decide (vl0.length + [[Ct.i (rd x0 vi0.toNat 0).int, Ct.i (rd x0 vi0.toNat 1).int, Ct.i (rd x0 vi0.toNat 2).int, Ct.i (rd x0 vi0.toNat 3).int]].length ≤ 9223372036854775807 ∧ (vl0.length + [[Ct.i (rd x0 vi0.toNat 0).int, Ct.i (rd x0 vi0.toNat 1).int, Ct.i (rd x0 vi0.toNat 2).int, Ct.i (rd x0 vi0.toNat 3).int]].length) * 32 ≤ 140737488355328)) then some (.inl (IntKind.i64.wrap (vi0 + (1 : Int)), vl0 ++ [[Ct.i (rd x0 vi0.toNat 0).int, Ct.i (rd x0 vi0.toNat 1).int, Ct.i (rd x0 vi0.toNat 2).int, Ct.i (rd x0 vi0.toNat 3).int]])) else none else none) else some (.inr (vi0, vl0))
noncomputable def tky_L0_c : Code := loopC Try.prog 115 0
set_option maxRecDepth 100000 in
theorem tky_L0_ok (x0 : List (List Ct)) : ∀ v, StepOk Try.prog 1 tky_L0_c (tky_L0_S x0) (tky_L0_T x0) v (tky_L0_step x0 v) := fun v => match v with | (vi0, vl0) => eng_step (C := (⟨consScene2, fun _ _ _ => none, fun f => false, noFacts, fun _ => 0⟩ : Cfg Try.prog)) noFacts_ok (n := 30) (f := 115) tky_L0_rd (fun _ => rfl) (by kernel_rfl)
noncomputable def tky_L0_p (x0 : List (List Ct)) : Bool := (iter (tky_L0_step x0) (x0.length + 1) (0, [])).isSome
noncomputable def tky_L0_v (x0 : List (List Ct)) : Int × List (List Ct) := loopRes (tky_L0_step x0) (x0.length + 1) (0, [])
noncomputable def tky_L0_lc (x0 : List (List Ct)) : LoopCon Try.prog := loopCon Try.prog 1 tky_L0_c [(1, none)] (tky_L0_S x0) (tky_L0_T x0) 0 (tky_L0_step x0) (tky_L0_ok x0) (x0.length + 1) (0, []) (tky_L0_p x0) rfl (tky_L0_v x0) rfl
noncomputable def tky_O (v : List (List Ct)) : Out := ⟨.sv (.one (.ext 1)), [(1, .row ([[[Sh.int IntKind.i64], [Sh.int IntKind.i64], [Sh.int IntKind.i64]].reverse.flatten, [Sh.int IntKind.i64]].reverse.flatten) 189 v)], 3, []⟩
noncomputable def tky_rd (out : Out) : Option (List (List Ct)) := some (hpL' out.up 1)
noncomputable def tky_res (x0 : List (List Ct)) : Option (List (List Ct)) := bif (tky_L0_p x0) then some ((tky_L0_v x0).snd) else none
set_option maxRecDepth 100000 in
theorem tky_tree {x0 : List (List Ct)} {v : List (List Ct)} (h : tky_res x0 = some v) : CallOk Try.prog 115 [.sv (.one (.ext 0))] [(0, .grid [.int .i64, .int .i64, .int .i64, .int .i64] x0)] 1 (tky_O v) :=
  eng_tree (C := (⟨consScene2, fun f id nx => bif Nat.beq f 115 then (bif Nat.beq id 0 then some (tky_L0_lc x0) else none) else none, fun f => false, noFacts, fun _ => 0⟩ : Cfg Try.prog)) noFacts_ok (n := 30) (f := 115) tky_O tky_rd rfl (by kernel_rfl) h
noncomputable def tky_v (x0 : List (List Ct)) : List (List Ct) := (tky_res x0).getD default
theorem tky_spec (x0 : List (List Ct)) (h : ((tky_res x0).isSome) = true) : tky_res x0 = some (tky_v x0) := opt_get h
noncomputable def tky_m (args : List RV) (hp : Hp) : Option ((List (List Ct)) × List Nat) := match args with
  | [.sv (.one (.ext i0))] => (match gridAt hp i0 [.int .i64, .int .i64, .int .i64, .int .i64] with
    | some x0 => some (x0, [i0])
    | _ => none)
  | _ => none
noncomputable def tky_con : Con Try.prog := conX Try.prog 115 tky_m 1 (fun x => [.sv (.one (.ext 0))]) (fun x => [(0, .grid [.int .i64, .int .i64, .int .i64, .int .i64] x)]) (fun x => some ((tky_res x).isSome)) (fun x => tky_O (tky_v x))
  (by
    intro args hp x r h
    unfold tky_m at h
    split at h
    · split at h
      · rename_i g0
        cases h
        refine ⟨rfl, fun nx => ⟨rfl, ?_, ?_⟩⟩
        · intro i hi
          simp only [List.mem_cons, List.not_mem_nil, or_false] at hi
          rcases hi with rfl
          · exact ⟨_, List.mem_of_getElem? (i := 0) rfl, .inl (by simp [RV.ids, SV.ids, CV.ids])⟩
        · intro id o0 ho
          have := hlook_mem ho
          simp only [List.mem_cons, Prod.mk.injEq, List.not_mem_nil, or_false] at this
          rcases this with ⟨rfl, rfl⟩
          · exact ⟨_, gridAt_spec g0, rfl⟩
      · cases h
    · cases h)
  (fun x h => ⟨rfl, rfl, tky_tree (tky_spec x (h _ rfl))⟩)

noncomputable def tfr_L0_S (u0 : Int) (u1 : List (List Ct)) (v : Int × List (List Ct)) : St := ⟨[.sv (.agg [.q u0, .ext 0]), .o (.ptr 1 0), .o (.ptr 2 0), .o (.ptr 3 0), .d, .d, .o (.ptr 1 0), .o (.q u0), .sv (.agg [.q u0, .val true (Value.slice none 0 0)]), .o (.ptr 1 1), .o (.ext 0), .o (.q (↑u1.length : Int)), .o (.q v.1), .d, .d, .d, .d, .d, .d, .d, .d, .d, .d, .d, .d, .d, .d, .d, .d], [(0, .grid ([Sh.int IntKind.i64, Sh.int IntKind.i64, Sh.int IntKind.i64, Sh.int IntKind.i64]) u1), (1, .cells [.q u0, .ext 0] 104), (2, .cells [.val true (.int .i64 0), .val true (Value.slice none 0 0)] 128), (3, .cells [.q u0, .ext 4] 128), (4, .row ([(fun s => (List.replicate 3 s).flatten) [Sh.int IntKind.i64], [Sh.int IntKind.i64]].reverse.flatten) 130 v.2)], 5, []⟩
noncomputable def tfr_L0_T (u0 : Int) (u1 : List (List Ct)) (v : Int × List (List Ct)) : Ex × St := ((.exit 0), ⟨(tfr_L0_S u0 u1 v).fr, (tfr_L0_S u0 u1 v).hp, 6, []⟩)
noncomputable def tfr_L0_rd (ex : Ex) (s : St) : Option ((Int × List (List Ct)) ⊕ (Int × List (List Ct))) × List (Nat × Option Nat) := match ex with
  | .normal => (some (.inl (rI (frC s 12 0), rL s (hpC s 3 1))), [(1, some 1), (2, some 2), (3, some 3), rnOf 4 (hpC s 3 1)])
  | .exit i => bif Nat.beq i 0 then (some (.inr (rI (frC s 12 0), rL s (hpC s 3 1))), [(1, some 1), (2, some 2), (3, some 3), (4, some 4)]) else (none, [])
  | _ => (none, [])
noncomputable def tfr_L0_step (u1 : List (List Ct)) : (Int × List (List Ct)) → Option ((Int × List (List Ct)) ⊕ (Int × List (List Ct))) := fun v => match v with
  | (vi0, vl0) => bif (decide (vi0 < (↑u1.length : Int))) then (bif (decide ((0 : Int) ≤ vi0 ∧ vi0 < (↑u1.length : Int))) then bif (decide (vl0.length + [[Ct.i (rd u1 vi0.toNat 0).int, Ct.i (rd u1 vi0.toNat 1).int, Ct.i (rd u1 vi0.toNat 2).int, Ct.i (rd u1 vi0.toNat 3).int]].length ≤ 9223372036854775807 ∧ (vl0.length + [[Ct.i (rd u1 vi0.toNat 0).int, Ct.i (rd u1 vi0.toNat 1).int, Ct.i (rd u1 vi0.toNat 2).int, Ct.i (rd u1 vi0.toNat 3).int]].length) * 32 ≤ 140737488355328)) then some (.inl (IntKind.i64.wrap (vi0 + (1 : Int)), vl0 ++ [[Ct.i (rd u1 vi0.toNat 0).int, Ct.i (rd u1 vi0.toNat 1).int, Ct.i (rd u1 vi0.toNat 2).int, Ct.i (rd u1 vi0.toNat 3).int]])) else none else none) else some (.inr (vi0, vl0))
noncomputable def tfr_L0_c : Code := loopC Try.prog 52 0
set_option maxRecDepth 100000 in
theorem tfr_L0_ok (u0 : Int) (u1 : List (List Ct)) : ∀ v, StepOk Try.prog 1 tfr_L0_c (tfr_L0_S u0 u1) (tfr_L0_T u0 u1) v (tfr_L0_step u1 v) := fun v => match v with | (vi0, vl0) => eng_step (C := (⟨consScene2, fun _ _ _ => none, fun f => false, noFacts, fun _ => 0⟩ : Cfg Try.prog)) noFacts_ok (n := 30) (f := 52) tfr_L0_rd (fun _ => rfl) (by kernel_rfl)
noncomputable def tfr_L0_p (u1 : List (List Ct)) : Bool := (iter (tfr_L0_step u1) (u1.length + 1) (0, [])).isSome
noncomputable def tfr_L0_v (u1 : List (List Ct)) : Int × List (List Ct) := loopRes (tfr_L0_step u1) (u1.length + 1) (0, [])
noncomputable def tfr_L0_lc (u0 : Int) (u1 : List (List Ct)) : LoopCon Try.prog := loopCon Try.prog 1 tfr_L0_c [(1, some 1), (2, some 2), (3, some 3), (4, none)] (tfr_L0_S u0 u1) (tfr_L0_T u0 u1) 0 (tfr_L0_step u1) (tfr_L0_ok u0 u1) (u1.length + 1) (0, []) (tfr_L0_p u1) rfl (tfr_L0_v u1) rfl
noncomputable def tfr_O (v : Int × List (List Ct)) : Out := ⟨.sv (.agg [.val false (.int .i64 v.1), .ext 4]), [(4, .row ([(fun s => (List.replicate 3 s).flatten) [Sh.int IntKind.i64], [Sh.int IntKind.i64]].reverse.flatten) 130 v.2)], 6, []⟩
noncomputable def tfr_rd (out : Out) : Option (Int × List (List Ct)) := some (rI (rvC out.v 0 0), hpL' out.up 4)
noncomputable def tfr_res (u0 : Int) (u1 : List (List Ct)) : Option (Int × List (List Ct)) := bif (tfr_L0_p u1) then some (u0, (tfr_L0_v u1).snd) else none
set_option maxRecDepth 100000 in
theorem tfr_tree {u0 : Int} {u1 : List (List Ct)} {v : Int × List (List Ct)} (h : tfr_res u0 u1 = some v) : CallOk Try.prog 52 [.sv (.agg [.val false (.int .i64 u0), .ext 0])] [(0, .grid [.int .i64, .int .i64, .int .i64, .int .i64] u1)] 1 (tfr_O v) :=
  eng_tree (C := (⟨consScene2, fun f id nx => bif Nat.beq f 52 then (bif Nat.beq id 0 then some (tfr_L0_lc u0 u1) else none) else none, fun f => false, noFacts, fun _ => 0⟩ : Cfg Try.prog)) noFacts_ok (n := 30) (f := 52) tfr_O tfr_rd rfl (by kernel_rfl) h
noncomputable def tfr_v (u0 : Int) (u1 : List (List Ct)) : Int × List (List Ct) := (tfr_res u0 u1).getD default
theorem tfr_spec (u0 : Int) (u1 : List (List Ct)) (h : ((tfr_res u0 u1).isSome) = true) : tfr_res u0 u1 = some (tfr_v u0 u1) := opt_get h
noncomputable def tfr_m (args : List RV) (hp : Hp) : Option ((Int × List (List Ct)) × List Nat) := match args with
  | [.sv (.agg [.val _ (.int .i64 u0), .ext i0])] => (match gridAt hp i0 [.int .i64, .int .i64, .int .i64, .int .i64] with
    | some u1 => some ((u0, u1), [i0])
    | _ => none)
  | _ => none
noncomputable def tfr_con : Con Try.prog := conX Try.prog 52 tfr_m 1 (fun x => [.sv (.agg [.val false (.int .i64 x.1), .ext 0])]) (fun x => [(0, .grid [.int .i64, .int .i64, .int .i64, .int .i64] x.2)]) (fun x => some ((tfr_res x.1 x.2).isSome)) (fun x => tfr_O (tfr_v x.1 x.2))
  (by
    intro args hp x r h
    unfold tfr_m at h
    split at h
    · split at h
      · rename_i g0
        cases h
        refine ⟨rfl, fun nx => ⟨rfl, ?_, ?_⟩⟩
        · intro i hi
          simp only [List.mem_cons, List.not_mem_nil, or_false] at hi
          rcases hi with rfl
          · exact ⟨_, List.mem_of_getElem? (i := 0) rfl, .inl (by simp [RV.ids, SV.ids, CV.ids])⟩
        · intro id o0 ho
          have := hlook_mem ho
          simp only [List.mem_cons, Prod.mk.injEq, List.not_mem_nil, or_false] at this
          rcases this with ⟨rfl, rfl⟩
          · exact ⟨_, gridAt_spec g0, rfl⟩
      · cases h
    · cases h)
  (fun x h => ⟨rfl, rfl, tfr_tree (tfr_spec x.1 x.2 (h _ rfl))⟩)

noncomputable def rsa_L0_S (u0 : Int) (u1 : List (List Ct)) (w0 : Int) (w1 : List (List Ct)) (v : Int) : St := ⟨[.sv (.agg [.q u0, .ext 0]), .sv (.agg [.q w0, .ext 1]), .o (.ptr 2 0), .o (.ptr 3 0), .o (.val true (.bool false)), .o (.q v), .o (.ptr 2 0), .o (.q u0), .o (.ptr 3 0), .o (.q w0), .o (.val false (.bool (u0 != w0))), .o (.val true (.bool false)), .o (.ptr 2 1), .o (.ext 0), .o (.q (↑u1.length : Int)), .o (.ptr 3 1), .o (.ext 1), .o (.q (↑w1.length : Int)), .o (.val false (.bool ((↑u1.length : Int) != (↑w1.length : Int)))), .o (.val true (.bool false)), .d, .d, .d, .d, .d, .d, .d, .d, .d, .d, .d, .d, .d, .d, .d, .d, .d, .d], [(0, .grid ([Sh.int IntKind.i64, Sh.int IntKind.i64, Sh.int IntKind.i64, Sh.int IntKind.i64]) u1), (1, .grid ([Sh.int IntKind.i64, Sh.int IntKind.i64, Sh.int IntKind.i64, Sh.int IntKind.i64]) w1), (2, .cells [.q u0, .ext 0] 128), (3, .cells [.q w0, .ext 1] 128)], 6, []⟩
noncomputable def rsa_L0_T (u0 : Int) (u1 : List (List Ct)) (w0 : Int) (w1 : List (List Ct)) : (Int) ⊕ (Unit) → Ex × St
  | .inl v => ((.exit 0), ⟨[.sv (.agg [.q u0, .ext 0]), .sv (.agg [.q w0, .ext 1]), .o (.ptr 2 0), .o (.ptr 3 0), .o (.val true (.bool false)), .o (.q v), .o (.ptr 2 0), .o (.q u0), .o (.ptr 3 0), .o (.q w0), .o (.val false (.bool (u0 != w0))), .o (.val true (.bool false)), .o (.ptr 2 1), .o (.ext 0), .o (.q (↑u1.length : Int)), .o (.ptr 3 1), .o (.ext 1), .o (.q (↑w1.length : Int)), .o (.val false (.bool ((↑u1.length : Int) != (↑w1.length : Int)))), .o (.val true (.bool false)), .d, .d, .d, .d, .d, .d, .d, .d, .d, .d, .d, .d, .d, .d, .d, .d, .d, .d], [(0, .grid ([Sh.int IntKind.i64, Sh.int IntKind.i64, Sh.int IntKind.i64, Sh.int IntKind.i64]) u1), (1, .grid ([Sh.int IntKind.i64, Sh.int IntKind.i64, Sh.int IntKind.i64, Sh.int IntKind.i64]) w1), (2, .cells [.q u0, .ext 0] 128), (3, .cells [.q w0, .ext 1] 128)], 7, []⟩)
  | .inr v => (.ret, ⟨[.dead, .dead, .dead, .dead, .sv (.one (.val true (.bool false))), .dead, .dead, .dead, .dead, .dead, .dead, .dead, .dead, .dead, .dead, .dead, .dead, .dead, .dead, .dead, .dead, .dead, .dead, .dead, .dead, .dead, .dead, .dead, .dead, .dead, .dead, .dead, .dead, .dead, .dead, .dead, .dead, .dead], [(0, .grid ([Sh.int IntKind.i64, Sh.int IntKind.i64, Sh.int IntKind.i64, Sh.int IntKind.i64]) u1), (1, .grid ([Sh.int IntKind.i64, Sh.int IntKind.i64, Sh.int IntKind.i64, Sh.int IntKind.i64]) w1)], 10, []⟩)
noncomputable def rsa_L0_rd (ex : Ex) (s : St) : Option ((Int) ⊕ ((Int) ⊕ (Unit))) × List (Nat × Option Nat) := match ex with
  | .normal => (some (.inl (rI (frC s 5 0))), [(2, some 2), (3, some 3)])
  | .exit i => bif Nat.beq i 0 then (some (.inr (.inl (rI (frC s 5 0)))), [(2, some 2), (3, some 3)]) else (none, [])
  | .ret => (some (.inr (.inr ())), [])
noncomputable def rsa_L0_step (u1 : List (List Ct)) (w1 : List (List Ct)) : (Int) → Option ((Int) ⊕ ((Int) ⊕ (Unit))) := fun v => match v with
  | vi0 => bif (decide (vi0 < (↑u1.length : Int))) then (bif (decide ((0 : Int) ≤ vi0 ∧ vi0 < (↑u1.length : Int))) then bif (decide ((0 : Int) ≤ vi0 ∧ vi0 < (↑w1.length : Int))) then bif (!((rd u1 vi0.toNat 0).int == (rd w1 vi0.toNat 0).int && ((rd u1 vi0.toNat 1).int == (rd w1 vi0.toNat 1).int && ((rd u1 vi0.toNat 2).int == (rd w1 vi0.toNat 2).int && ((rd u1 vi0.toNat 3).int == (rd w1 vi0.toNat 3).int && true)) && true))) then (some (.inr (.inr ()))) else some (.inl (IntKind.i64.wrap (vi0 + (1 : Int)))) else none else none) else some (.inr (.inl vi0))
noncomputable def rsa_L0_c : Code := loopC Try.prog 50 0
set_option maxRecDepth 100000 in
theorem rsa_L0_ok (u0 : Int) (u1 : List (List Ct)) (w0 : Int) (w1 : List (List Ct)) : ∀ v, StepOk Try.prog 2 rsa_L0_c (rsa_L0_S u0 u1 w0 w1) (rsa_L0_T u0 u1 w0 w1) v (rsa_L0_step u1 w1 v) := fun v => match v with | vi0 => eng_step (C := (⟨consScene2, fun _ _ _ => none, fun f => false, noFacts, fun _ => 0⟩ : Cfg Try.prog)) noFacts_ok (n := 30) (f := 50) rsa_L0_rd (fun r => by cases r <;> rfl) (by kernel_rfl)
noncomputable def rsa_L0_p (u1 : List (List Ct)) (w1 : List (List Ct)) : Bool := (iter (rsa_L0_step u1 w1) (u1.length + 1) 0).isSome
noncomputable def rsa_L0_v (u1 : List (List Ct)) (w1 : List (List Ct)) : (Int) ⊕ (Unit) := (iter (rsa_L0_step u1 w1) (u1.length + 1) 0).getD (.inl default)
noncomputable def rsa_L0_lc (u0 : Int) (u1 : List (List Ct)) (w0 : Int) (w1 : List (List Ct)) : LoopCon Try.prog := loopCon2 Try.prog 2 rsa_L0_c [(2, some 2), (3, some 3)] (rsa_L0_S u0 u1 w0 w1) (rsa_L0_T u0 u1 w0 w1) 0 (rsa_L0_step u1 w1) (rsa_L0_ok u0 u1 w0 w1) (u1.length + 1) 0 (rsa_L0_p u1 w1) rfl (rsa_L0_v u1 w1) rfl
noncomputable def rsa_O (v : Bool) : Out := ⟨.sv (.one (.val false (.bool v))), [], 10, []⟩
noncomputable def rsa_rd (out : Out) : Option (Bool) := some (rB (rvC out.v 0 0))
noncomputable def rsa_res (u0 : Int) (u1 : List (List Ct)) (w0 : Int) (w1 : List (List Ct)) : Option (Bool) := bif (u0 != w0) then (some false) else bif ((↑u1.length : Int) != (↑w1.length : Int)) then (some false) else bif (rsa_L0_p u1 w1) then bif (isL (rsa_L0_v u1 w1)) then (some true) else some false else none
set_option maxRecDepth 100000 in
theorem rsa_tree {u0 : Int} {u1 : List (List Ct)} {w0 : Int} {w1 : List (List Ct)} {v : Bool} (h : rsa_res u0 u1 w0 w1 = some v) : CallOk Try.prog 50 [.sv (.agg [.val false (.int .i64 u0), .ext 0]), .sv (.agg [.val false (.int .i64 w0), .ext 1])] [(0, .grid [.int .i64, .int .i64, .int .i64, .int .i64] u1), (1, .grid [.int .i64, .int .i64, .int .i64, .int .i64] w1)] 2 (rsa_O v) :=
  eng_tree (C := (⟨consScene2, fun f id nx => bif Nat.beq f 50 then (bif Nat.beq id 0 then some (rsa_L0_lc u0 u1 w0 w1) else none) else none, fun f => false, noFacts, fun _ => 0⟩ : Cfg Try.prog)) noFacts_ok (n := 30) (f := 50) rsa_O rsa_rd rfl (by kernel_rfl) h
noncomputable def rsa_v (u0 : Int) (u1 : List (List Ct)) (w0 : Int) (w1 : List (List Ct)) : Bool := (rsa_res u0 u1 w0 w1).getD default
theorem rsa_spec (u0 : Int) (u1 : List (List Ct)) (w0 : Int) (w1 : List (List Ct)) (h : ((rsa_res u0 u1 w0 w1).isSome) = true) : rsa_res u0 u1 w0 w1 = some (rsa_v u0 u1 w0 w1) := opt_get h
noncomputable def rsa_m (args : List RV) (hp : Hp) : Option ((Int × List (List Ct) × Int × List (List Ct)) × List Nat) := match args with
  | [.sv (.agg [.val _ (.int .i64 u0), .ext i0]), .sv (.agg [.val _ (.int .i64 w0), .ext i1])] => (match gridAt hp i0 [.int .i64, .int .i64, .int .i64, .int .i64], gridAt hp i1 [.int .i64, .int .i64, .int .i64, .int .i64] with
    | some u1, some w1 => some ((u0, u1, w0, w1), [i0, i1])
    | _, _ => none)
  | _ => none
noncomputable def rsa_con : Con Try.prog := conX Try.prog 50 rsa_m 2 (fun x => [.sv (.agg [.val false (.int .i64 x.1), .ext 0]), .sv (.agg [.val false (.int .i64 x.2.2.1), .ext 1])]) (fun x => [(0, .grid [.int .i64, .int .i64, .int .i64, .int .i64] x.2.1), (1, .grid [.int .i64, .int .i64, .int .i64, .int .i64] x.2.2.2)]) (fun x => some ((rsa_res x.1 x.2.1 x.2.2.1 x.2.2.2).isSome)) (fun x => rsa_O (rsa_v x.1 x.2.1 x.2.2.1 x.2.2.2))
  (by
    intro args hp x r h
    unfold rsa_m at h
    split at h
    · split at h
      · rename_i g0 g1
        cases h
        refine ⟨rfl, fun nx => ⟨rfl, ?_, ?_⟩⟩
        · intro i hi
          simp only [List.mem_cons, List.not_mem_nil, or_false] at hi
          rcases hi with rfl | rfl
          · exact ⟨_, List.mem_of_getElem? (i := 0) rfl, .inl (by simp [RV.ids, SV.ids, CV.ids])⟩
          · exact ⟨_, List.mem_of_getElem? (i := 1) rfl, .inl (by simp [RV.ids, SV.ids, CV.ids])⟩
        · intro id o0 ho
          have := hlook_mem ho
          simp only [List.mem_cons, Prod.mk.injEq, List.not_mem_nil, or_false] at this
          rcases this with ⟨rfl, rfl⟩ | ⟨rfl, rfl⟩
          · exact ⟨_, gridAt_spec g0, rfl⟩
          · exact ⟨_, gridAt_spec g1, rfl⟩
      · cases h
    · cases h)
  (fun x h => ⟨rfl, rfl, rsa_tree (rsa_spec x.1 x.2.1 x.2.2.1 x.2.2.2 (h _ rfl))⟩)

noncomputable def lsm_L0_S (u0 u1 u2 u3 u4 u5 u6 u7 u8 u9 u10 u11 u12 : Int) (u13 u14 u15 u16 : List (List Ct)) (v : Int) : St := ⟨[.sv (.agg [.q u0, .q u1, .q u2, .q u3, .q u4, .q u5, .val false (.int .u64 u6), .q u7, .q u8, .q u9, .q u10, .q u11, .q u12, .ext 0, .ext 1, .ext 2, .ext 3]), .o (.ptr 4 0), .o (.val true (.bool false)), .d, .d, .o (.ptr 4 14), .o (.ext 1), .o (.q (↑u14.length : Int)), .o (.q v), .d, .d, .d, .d, .d, .d, .d, .d, .d, .d, .d, .d, .d, .d, .d, .d, .d, .d, .d, .d, .d, .d, .d, .d, .d, .d, .d, .d, .d, .d], [(0, .grid ([Sh.int IntKind.i64, Sh.int IntKind.i64, Sh.int IntKind.i64, Sh.int IntKind.i64, Sh.int IntKind.i64]) u13), (1, .grid ([Sh.int IntKind.i64, Sh.sl [Sh.int IntKind.i64, Sh.int IntKind.i64, Sh.int IntKind.i64, Sh.int IntKind.i64]]) u14), (2, .grid ([Sh.int IntKind.i64, Sh.int IntKind.i64, Sh.int IntKind.i64, Sh.int IntKind.i64]) u15), (3, .grid ([Sh.int IntKind.i64, Sh.int IntKind.i64, Sh.int IntKind.i64, Sh.int IntKind.i64, Sh.int IntKind.i64, Sh.int IntKind.i64, Sh.int IntKind.i64, Sh.int IntKind.i64, Sh.int IntKind.i64, Sh.int IntKind.i64, Sh.int IntKind.i64, Sh.int IntKind.i64, Sh.int IntKind.i64]) u16), (4, .cells [.q u0, .q u1, .q u2, .q u3, .q u4, .q u5, .val false (.int .u64 u6), .q u7, .q u8, .q u9, .q u10, .q u11, .q u12, .ext 0, .ext 1, .ext 2, .ext 3] 49)], 5, []⟩
noncomputable def lsm_L0_T (u0 u1 u2 u3 u4 u5 u6 u7 u8 u9 u10 u11 u12 : Int) (u13 u14 u15 u16 : List (List Ct)) : (Int) ⊕ (Unit) → Ex × St
  | .inl v => ((.exit 0), ⟨[.sv (.agg [.q u0, .q u1, .q u2, .q u3, .q u4, .q u5, .val false (.int .u64 u6), .q u7, .q u8, .q u9, .q u10, .q u11, .q u12, .ext 0, .ext 1, .ext 2, .ext 3]), .o (.ptr 4 0), .o (.val true (.bool false)), .d, .d, .o (.ptr 4 14), .o (.ext 1), .o (.q (↑u14.length : Int)), .o (.q v), .d, .d, .d, .d, .d, .d, .d, .d, .d, .d, .d, .d, .d, .d, .d, .d, .d, .d, .d, .d, .d, .d, .d, .d, .d, .d, .d, .d, .d, .d], [(0, .grid ([Sh.int IntKind.i64, Sh.int IntKind.i64, Sh.int IntKind.i64, Sh.int IntKind.i64, Sh.int IntKind.i64]) u13), (1, .grid ([Sh.int IntKind.i64, Sh.sl [Sh.int IntKind.i64, Sh.int IntKind.i64, Sh.int IntKind.i64, Sh.int IntKind.i64]]) u14), (2, .grid ([Sh.int IntKind.i64, Sh.int IntKind.i64, Sh.int IntKind.i64, Sh.int IntKind.i64]) u15), (3, .grid ([Sh.int IntKind.i64, Sh.int IntKind.i64, Sh.int IntKind.i64, Sh.int IntKind.i64, Sh.int IntKind.i64, Sh.int IntKind.i64, Sh.int IntKind.i64, Sh.int IntKind.i64, Sh.int IntKind.i64, Sh.int IntKind.i64, Sh.int IntKind.i64, Sh.int IntKind.i64, Sh.int IntKind.i64]) u16), (4, .cells [.q u0, .q u1, .q u2, .q u3, .q u4, .q u5, .val false (.int .u64 u6), .q u7, .q u8, .q u9, .q u10, .q u11, .q u12, .ext 0, .ext 1, .ext 2, .ext 3] 49)], 6, []⟩)
  | .inr v => (.ret, ⟨[.dead, .dead, .sv (.one (.val true (.bool false))), .dead, .dead, .dead, .dead, .dead, .dead, .dead, .dead, .dead, .dead, .dead, .dead, .dead, .dead, .dead, .dead, .dead, .dead, .dead, .dead, .dead, .dead, .dead, .dead, .dead, .dead, .dead, .dead, .dead, .dead, .dead, .dead, .dead, .dead, .dead, .dead], [(0, .grid ([Sh.int IntKind.i64, Sh.int IntKind.i64, Sh.int IntKind.i64, Sh.int IntKind.i64, Sh.int IntKind.i64]) u13), (1, .grid ([Sh.int IntKind.i64, Sh.sl [Sh.int IntKind.i64, Sh.int IntKind.i64, Sh.int IntKind.i64, Sh.int IntKind.i64]]) u14), (2, .grid ([Sh.int IntKind.i64, Sh.int IntKind.i64, Sh.int IntKind.i64, Sh.int IntKind.i64]) u15), (3, .grid ([Sh.int IntKind.i64, Sh.int IntKind.i64, Sh.int IntKind.i64, Sh.int IntKind.i64, Sh.int IntKind.i64, Sh.int IntKind.i64, Sh.int IntKind.i64, Sh.int IntKind.i64, Sh.int IntKind.i64, Sh.int IntKind.i64, Sh.int IntKind.i64, Sh.int IntKind.i64, Sh.int IntKind.i64]) u16)], 10, []⟩)
noncomputable def lsm_L0_rd (ex : Ex) (s : St) : Option ((Int) ⊕ ((Int) ⊕ (Unit))) × List (Nat × Option Nat) := match ex with
  | .normal => (some (.inl (rI (frC s 8 0))), [(4, some 4)])
  | .exit i => bif Nat.beq i 0 then (some (.inr (.inl (rI (frC s 8 0)))), [(4, some 4)]) else (none, [])
  | .ret => (some (.inr (.inr ())), [])
noncomputable def lsm_L0_step (u14 : List (List Ct)) : (Int) → Option ((Int) ⊕ ((Int) ⊕ (Unit))) := fun v => match v with
  | vi0 => bif (decide (vi0 < (↑u14.length : Int))) then (bif (decide ((0 : Int) ≤ vi0 ∧ vi0 < (↑u14.length : Int))) then bif (decide ((↑(rd u14 vi0.toNat 1).rows.length : Int) > (40 : Int))) then (some (.inr (.inr ()))) else some (.inl (IntKind.i64.wrap (vi0 + (1 : Int)))) else none) else some (.inr (.inl vi0))
noncomputable def lsm_L0_c : Code := loopC Try.prog 15 0
set_option maxRecDepth 100000 in
theorem lsm_L0_ok (u0 u1 u2 u3 u4 u5 u6 u7 u8 u9 u10 u11 u12 : Int) (u13 u14 u15 u16 : List (List Ct)) : ∀ v, StepOk Try.prog 4 lsm_L0_c (lsm_L0_S u0 u1 u2 u3 u4 u5 u6 u7 u8 u9 u10 u11 u12 u13 u14 u15 u16) (lsm_L0_T u0 u1 u2 u3 u4 u5 u6 u7 u8 u9 u10 u11 u12 u13 u14 u15 u16) v (lsm_L0_step u14 v) := fun v => match v with | vi0 => eng_step (C := (⟨consScene2, fun _ _ _ => none, fun f => false, noFacts, fun _ => 0⟩ : Cfg Try.prog)) noFacts_ok (n := 30) (f := 15) lsm_L0_rd (fun r => by cases r <;> rfl) (by kernel_rfl)
noncomputable def lsm_L0_p (u14 : List (List Ct)) : Bool := (iter (lsm_L0_step u14) (u14.length + 1) 0).isSome
noncomputable def lsm_L0_v (u14 : List (List Ct)) : (Int) ⊕ (Unit) := (iter (lsm_L0_step u14) (u14.length + 1) 0).getD (.inl default)
noncomputable def lsm_L0_lc (u0 u1 u2 u3 u4 u5 u6 u7 u8 u9 u10 u11 u12 : Int) (u13 u14 u15 u16 : List (List Ct)) : LoopCon Try.prog := loopCon2 Try.prog 4 lsm_L0_c [(4, some 4)] (lsm_L0_S u0 u1 u2 u3 u4 u5 u6 u7 u8 u9 u10 u11 u12 u13 u14 u15 u16) (lsm_L0_T u0 u1 u2 u3 u4 u5 u6 u7 u8 u9 u10 u11 u12 u13 u14 u15 u16) 0 (lsm_L0_step u14) (lsm_L0_ok u0 u1 u2 u3 u4 u5 u6 u7 u8 u9 u10 u11 u12 u13 u14 u15 u16) (u14.length + 1) 0 (lsm_L0_p u14) rfl (lsm_L0_v u14) rfl
noncomputable def lsm_O (v : Bool) : Out := ⟨.sv (.one (.val false (.bool v))), [], 10, []⟩
noncomputable def lsm_rd (out : Out) : Option (Bool) := some (rB (rvC out.v 0 0))
noncomputable def lsm_res (u13 u14 u15 u16 : List (List Ct)) : Option (Bool) := bif (lsm_L0_p u14) then bif (isL (lsm_L0_v u14)) then (bif (decide ((↑u13.length : Int) ≤ (60 : Int))) then (bif (decide ((↑u14.length : Int) ≤ (60 : Int))) then (bif (decide ((↑u15.length : Int) ≤ (60 : Int))) then (some (decide ((↑u16.length : Int) ≤ (200 : Int)))) else some false) else some false) else some false) else some false else none
set_option maxRecDepth 100000 in
theorem lsm_tree {u0 u1 u2 u3 u4 u5 u6 u7 u8 u9 u10 u11 u12 : Int} {u13 u14 u15 u16 : List (List Ct)} {v : Bool} (h : lsm_res u13 u14 u15 u16 = some v) : CallOk Try.prog 15 [.sv (.agg [.val false (.int .i64 u0), .val false (.int .i64 u1), .val false (.int .i64 u2), .val false (.int .i64 u3), .val false (.int .i64 u4), .val false (.int .i64 u5), .val false (.int .u64 u6), .val false (.int .i64 u7), .val false (.int .i64 u8), .val false (.int .i64 u9), .val false (.int .i64 u10), .val false (.int .i64 u11), .val false (.int .i64 u12), .ext 0, .ext 1, .ext 2, .ext 3])] [(0, .grid [.int .i64, .int .i64, .int .i64, .int .i64, .int .i64] u13), (1, .grid [.int .i64, .sl [.int .i64, .int .i64, .int .i64, .int .i64]] u14), (2, .grid [.int .i64, .int .i64, .int .i64, .int .i64] u15), (3, .grid [.int .i64, .int .i64, .int .i64, .int .i64, .int .i64, .int .i64, .int .i64, .int .i64, .int .i64, .int .i64, .int .i64, .int .i64, .int .i64] u16)] 4 (lsm_O v) :=
  eng_tree (C := (⟨consScene2, fun f id nx => bif Nat.beq f 15 then (bif Nat.beq id 0 then some (lsm_L0_lc u0 u1 u2 u3 u4 u5 u6 u7 u8 u9 u10 u11 u12 u13 u14 u15 u16) else none) else none, fun f => false, noFacts, fun _ => 0⟩ : Cfg Try.prog)) noFacts_ok (n := 30) (f := 15) lsm_O lsm_rd rfl (by kernel_rfl) h
noncomputable def lsm_v (u13 u14 u15 u16 : List (List Ct)) : Bool := (lsm_res u13 u14 u15 u16).getD default
theorem lsm_spec (u13 u14 u15 u16 : List (List Ct)) (h : ((lsm_res u13 u14 u15 u16).isSome) = true) : lsm_res u13 u14 u15 u16 = some (lsm_v u13 u14 u15 u16) := opt_get h
noncomputable def lsm_as : List ASh := [.agg [.int .i64, .int .i64, .int .i64, .int .i64, .int .i64, .int .i64, .int .u64, .int .i64, .int .i64, .int .i64, .int .i64, .int .i64, .int .i64, .grid [.int .i64, .int .i64, .int .i64, .int .i64, .int .i64], .grid [.int .i64, .sl [.int .i64, .int .i64, .int .i64, .int .i64]], .grid [.int .i64, .int .i64, .int .i64, .int .i64], .grid [.int .i64, .int .i64, .int .i64, .int .i64, .int .i64, .int .i64, .int .i64, .int .i64, .int .i64, .int .i64, .int .i64, .int .i64, .int .i64]]]
noncomputable def lsm_con : Con Try.prog := conS Try.prog 15 lsm_as (fun x => some ((lsm_res (x.getD 13 (.i 0)).rows (x.getD 14 (.i 0)).rows (x.getD 15 (.i 0)).rows (x.getD 16 (.i 0)).rows).isSome)) (fun x => lsm_O (lsm_v (x.getD 13 (.i 0)).rows (x.getD 14 (.i 0)).rows (x.getD 15 (.i 0)).rows (x.getD 16 (.i 0)).rows))
  (fun x h => ⟨by kernel_rfl, by kernel_rfl, Eq.mp (by kernel_rfl) (@lsm_tree ((x.getD 0 (.i 0)).int) ((x.getD 1 (.i 0)).int) ((x.getD 2 (.i 0)).int) ((x.getD 3 (.i 0)).int) ((x.getD 4 (.i 0)).int) ((x.getD 5 (.i 0)).int) ((x.getD 6 (.i 0)).int) ((x.getD 7 (.i 0)).int) ((x.getD 8 (.i 0)).int) ((x.getD 9 (.i 0)).int) ((x.getD 10 (.i 0)).int) ((x.getD 11 (.i 0)).int) ((x.getD 12 (.i 0)).int) ((x.getD 13 (.i 0)).rows) ((x.getD 14 (.i 0)).rows) ((x.getD 15 (.i 0)).rows) ((x.getD 16 (.i 0)).rows) _ (lsm_spec ((x.getD 13 (.i 0)).rows) ((x.getD 14 (.i 0)).rows) ((x.getD 15 (.i 0)).rows) ((x.getD 16 (.i 0)).rows) (h _ rfl)))⟩)
noncomputable def consScene3 : List (Con Try.prog) := [tky_con.freezeR.freezeO, tfr_con.freezeR.freezeO, rsa_con, lsm_con] ++ consScene2
end Go.Proofs.Ytcpbiijegbbafaa
