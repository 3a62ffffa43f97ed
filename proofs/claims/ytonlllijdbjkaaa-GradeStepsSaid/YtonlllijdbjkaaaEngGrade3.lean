/- The functions of layer 39 on curves, as contracts. No condition. -/
import Derived.Test.YtonlllijdbjkaaaGradeP
set_option linter.unusedVariables false
set_option linter.unusedSimpArgs false
namespace Go.Proofs.Ytonlllijdbjkaaa
open Go.RowKit

noncomputable def cat_v (x0 : List (List Ct)) (x1 : Int) : Int := atV x0 x1
theorem cat_spec (x0 : List (List Ct)) (x1 : Int) : cat_res x0 x1 = some (cat_v x0 x1) := cat_at x0 x1
noncomputable def cat_m (args : List RV) (hp : Hp) : Option ((List (List Ct) × Int) × List Nat) := match args with
  | [.sv (.one (.ext i0)), .sv (.one (.val _ (.int .i64 x1)))] => (match gridAt hp i0 [.int .i64, .int .i64] with
    | some x0 => some ((x0, x1), [i0])
    | _ => none)
  | _ => none
noncomputable def cat_con : Con Try.prog := conX Try.prog 11 cat_m 1 (fun x => [.sv (.one (.ext 0)), .sv (.one (.val false (.int .i64 x.2)))]) (fun x => [(0, .grid [.int .i64, .int .i64] x.1)]) (fun x => none) (fun x => cat_O (cat_v x.1 x.2))
  (by
    intro args hp x r h
    unfold cat_m at h
    split at h
    · split at h
      · rename_i g0
        cases h
        refine ⟨rfl, fun nx => ⟨rfl, ?_, ?_⟩⟩
        · intro i hi
          simp only [List.mem_cons, List.not_mem_nil, or_false] at hi
          rcases hi with rfl
          · exact ⟨_, List.mem_of_getElem? (i := 0) rfl, .inl (by simp [RV.ids, SV.ids, CV.ids])⟩
        · intro id o0 ho
          have := hlook_mem ho
          simp only [List.mem_cons, Prod.mk.injEq, List.not_mem_nil, or_false] at this
          rcases this with ⟨rfl, rfl⟩
          · exact ⟨_, gridAt_spec g0, rfl⟩
      · cases h
    · cases h)
  (fun x h => ⟨rfl, rfl, cat_tree (cat_spec x.1 x.2)⟩)

noncomputable def rat_v (x0 : List (List Ct)) (x1 : Int) : Int := atV x0 x1
theorem rat_spec (x0 : List (List Ct)) (x1 : Int) : rat_res x0 x1 = some (rat_v x0 x1) := rat_at x0 x1
noncomputable def rat_m (args : List RV) (hp : Hp) : Option ((List (List Ct) × Int) × List Nat) := match args with
  | [.sv (.one (.ext i0)), .sv (.one (.val _ (.int .i64 x1)))] => (match gridAt hp i0 [.int .i64, .int .i64] with
    | some x0 => some ((x0, x1), [i0])
    | _ => none)
  | _ => none
noncomputable def rat_con : Con Try.prog := conX Try.prog 12 rat_m 1 (fun x => [.sv (.one (.ext 0)), .sv (.one (.val false (.int .i64 x.2)))]) (fun x => [(0, .grid [.int .i64, .int .i64] x.1)]) (fun x => none) (fun x => rat_O (rat_v x.1 x.2))
  (by
    intro args hp x r h
    unfold rat_m at h
    split at h
    · split at h
      · rename_i g0
        cases h
        refine ⟨rfl, fun nx => ⟨rfl, ?_, ?_⟩⟩
        · intro i hi
          simp only [List.mem_cons, List.not_mem_nil, or_false] at hi
          rcases hi with rfl
          · exact ⟨_, List.mem_of_getElem? (i := 0) rfl, .inl (by simp [RV.ids, SV.ids, CV.ids])⟩
        · intro id o0 ho
          have := hlook_mem ho
          simp only [List.mem_cons, Prod.mk.injEq, List.not_mem_nil, or_false] at this
          rcases this with ⟨rfl, rfl⟩
          · exact ⟨_, gridAt_spec g0, rfl⟩
      · cases h
    · cases h)
  (fun x h => ⟨rfl, rfl, rat_tree (rat_spec x.1 x.2)⟩)

noncomputable def crise_v (x0 : List (List Ct)) : Bool := riseV x0
theorem crise_spec (x0 : List (List Ct)) (h : (decide (x0.length ≤ 1000)) = true) : crise_res x0 = some (crise_v x0) := crise_at x0 (of_decide_eq_true h)
noncomputable def crise_m (args : List RV) (hp : Hp) : Option ((List (List Ct)) × List Nat) := match args with
  | [.sv (.one (.ext i0))] => (match gridAt hp i0 [.int .i64, .int .i64] with
    | some x0 => some (x0, [i0])
    | _ => none)
  | _ => none
noncomputable def crise_con : Con Try.prog := conX Try.prog 13 crise_m 1 (fun x => [.sv (.one (.ext 0))]) (fun x => [(0, .grid [.int .i64, .int .i64] x)]) (fun x => some (decide (x.length ≤ 1000))) (fun x => crise_O (crise_v x))
  (by
    intro args hp x r h
    unfold crise_m at h
    split at h
    · split at h
      · rename_i g0
        cases h
        refine ⟨rfl, fun nx => ⟨rfl, ?_, ?_⟩⟩
        · intro i hi
          simp only [List.mem_cons, List.not_mem_nil, or_false] at hi
          rcases hi with rfl
          · exact ⟨_, List.mem_of_getElem? (i := 0) rfl, .inl (by simp [RV.ids, SV.ids, CV.ids])⟩
        · intro id o0 ho
          have := hlook_mem ho
          simp only [List.mem_cons, Prod.mk.injEq, List.not_mem_nil, or_false] at this
          rcases this with ⟨rfl, rfl⟩
          · exact ⟨_, gridAt_spec g0, rfl⟩
      · cases h
    · cases h)
  (fun x h => ⟨rfl, rfl, crise_tree (crise_spec x (h _ rfl))⟩)

noncomputable def rrise_v (x0 : List (List Ct)) : Bool := riseV x0
theorem rrise_spec (x0 : List (List Ct)) (h : (decide (x0.length ≤ 1000)) = true) : rrise_res x0 = some (rrise_v x0) := rrise_at x0 (of_decide_eq_true h)
noncomputable def rrise_m (args : List RV) (hp : Hp) : Option ((List (List Ct)) × List Nat) := match args with
  | [.sv (.one (.ext i0))] => (match gridAt hp i0 [.int .i64, .int .i64] with
    | some x0 => some (x0, [i0])
    | _ => none)
  | _ => none
noncomputable def rrise_con : Con Try.prog := conX Try.prog 14 rrise_m 1 (fun x => [.sv (.one (.ext 0))]) (fun x => [(0, .grid [.int .i64, .int .i64] x)]) (fun x => some (decide (x.length ≤ 1000))) (fun x => rrise_O (rrise_v x))
  (by
    intro args hp x r h
    unfold rrise_m at h
    split at h
    · split at h
      · rename_i g0
        cases h
        refine ⟨rfl, fun nx => ⟨rfl, ?_, ?_⟩⟩
        · intro i hi
          simp only [List.mem_cons, List.not_mem_nil, or_false] at hi
          rcases hi with rfl
          · exact ⟨_, List.mem_of_getElem? (i := 0) rfl, .inl (by simp [RV.ids, SV.ids, CV.ids])⟩
        · intro id o0 ho
          have := hlook_mem ho
          simp only [List.mem_cons, Prod.mk.injEq, List.not_mem_nil, or_false] at this
          rcases this with ⟨rfl, rfl⟩
          · exact ⟨_, gridAt_spec g0, rfl⟩
      · cases h
    · cases h)
  (fun x h => ⟨rfl, rfl, rrise_tree (rrise_spec x (h _ rfl))⟩)

noncomputable def gto_L0_S (x0 : List (List Ct)) (v : Int × List (List Ct)) : St := ⟨[.o (.ext 0), .d, .o (.val true (Value.slice none 0 0)), .o (.ext 1), .d, .d, .o (.ext 0), .o (.q (↑x0.length : Int)), .o (.q v.1), .d, .d, .d, .d, .d, .d, .d, .d, .d, .d, .d, .d, .d], [(0, .grid ([Sh.int IntKind.i64, Sh.int IntKind.i64]) x0), (1, .row ([[Sh.int IntKind.i64], [Sh.int IntKind.i64]].reverse.flatten) 84 v.2)], 2, []⟩
noncomputable def gto_L0_T (x0 : List (List Ct)) (v : Int × List (List Ct)) : Ex × St := ((.exit 0), ⟨(gto_L0_S x0 v).fr, (gto_L0_S x0 v).hp, 3, []⟩)
noncomputable def gto_L0_rd (ex : Ex) (s : St) : Option ((Int × List (List Ct)) ⊕ (Int × List (List Ct))) × List (Nat × Option Nat) := match ex with
  | .normal => (some (.inl (rI (frC s 8 0), rL s (frC s 3 0))), [rnOf 1 (frC s 3 0)])
  | .exit i => bif Nat.beq i 0 then (some (.inr (rI (frC s 8 0), rL s (frC s 3 0))), [(1, some 1)]) else (none, [])
  | _ => (none, [])
noncomputable def gto_L0_step (x0 : List (List Ct)) : (Int × List (List Ct)) → Option ((Int × List (List Ct)) ⊕ (Int × List (List Ct))) := fun v => match v with
  | (vi0, vl0) => bif (decide (vi0 < (↑x0.length : Int))) then (bif (decide ((0 : Int) ≤ vi0 ∧ vi0 < (↑x0.length : Int))) then bif (decide (vl0.length + [[Ct.i (rd x0 vi0.toNat 0).int, Ct.i (rd x0 vi0.toNat 1).int]].length ≤ 9223372036854775807 ∧ (vl0.length + [[Ct.i (rd x0 vi0.toNat 0).int, Ct.i (rd x0 vi0.toNat 1).int]].length) * 16 ≤ 140737488355328)) then some (.inl (IntKind.i64.wrap (vi0 + (1 : Int)), vl0 ++ [[Ct.i (rd x0 vi0.toNat 0).int, Ct.i (rd x0 vi0.toNat 1).int]])) else none else none) else some (.inr (vi0, vl0))
noncomputable def gto_L0_c : Code := loopC Try.prog 8 0
set_option maxRecDepth 100000 in
theorem gto_L0_ok (x0 : List (List Ct)) : ∀ v, StepOk Try.prog 1 gto_L0_c (gto_L0_S x0) (gto_L0_T x0) v (gto_L0_step x0 v) := fun v => match v with | (vi0, vl0) => eng_step (C := (⟨consFix, fun _ _ _ => none, fun f => false, noFacts, fun _ => 4⟩ : Cfg Try.prog)) noFacts_ok (n := 30) (f := 8) gto_L0_rd (fun _ => rfl) (by kernel_rfl)
noncomputable def gto_L0_p (x0 : List (List Ct)) : Bool := (iter (gto_L0_step x0) (x0.length + 1) (0, [])).isSome
noncomputable def gto_L0_v (x0 : List (List Ct)) : Int × List (List Ct) := loopRes (gto_L0_step x0) (x0.length + 1) (0, [])
set_option maxRecDepth 100000 in
noncomputable def gto_L0_lc (x0 : List (List Ct)) : LoopCon Try.prog := loopCon Try.prog 1 gto_L0_c [(1, none)] (gto_L0_S x0) (gto_L0_T x0) 0 (gto_L0_step x0) (gto_L0_ok x0) (x0.length + 1) (0, []) (gto_L0_p x0) rfl (gto_L0_v x0) rfl
noncomputable def gto_L0_F (x0 : List (List Ct)) (k : Nat) (a : List (List Ct)) : List (List Ct) := a ++ [[Ct.i (rd x0 k 0).int, Ct.i (rd x0 k 1).int]]
theorem gto_L0_done (x0 : List (List Ct)) (hn : x0.length ≤ 9223372036854775000) (h40 : x0.length ≤ 1000) : gto_L0_p x0 = true ∧ gto_L0_v x0 = (fun (a : List (List Ct)) => (((x0.length : Nat) : Int), a)) (nfold (gto_L0_F x0) (x0.length) ([])) := by
  have := iter_range (step := gto_L0_step x0) (A := List (List Ct)) (fun (k : Nat) (a : List (List Ct)) => ((k : Int), a)) (fun k a => a.length = k ∧ k ≤ 1000) (f := gto_L0_F x0) (out := fun (a : List (List Ct)) => (((x0.length : Nat) : Int), a)) (n := x0.length) (m := x0.length + 1) (v := (0, [])) (a0 := []) rfl (by omega)
    (fun k hk a hi => ⟨by
      have e1 : k < x0.length := by omega
      have e3 : a.length + 1 ≤ 9223372036854775807 ∧ (a.length + 1) * 16 ≤ 140737488355328 := by omega
      simp [gto_L0_step, gto_L0_F, hk, wrap_in (n := (k : Int) + 1) (by omega) (by omega), e1, e3.1, e3.2], by simp only [gto_L0_F, List.length_append, List.length_cons, List.length_nil]; omega⟩)
    (fun a hi => by
      simp [gto_L0_step]) ⟨rfl, by omega⟩
  exact ⟨by unfold gto_L0_p; rw [this, Option.isSome_some], by unfold gto_L0_v loopRes; rw [this, Option.getD_some]⟩
noncomputable def gto_O (v : List (List Ct)) : Out := ⟨.sv (.one (.ext 1)), [(1, .row ([[Sh.int IntKind.i64], [Sh.int IntKind.i64]].reverse.flatten) 84 v)], 3, []⟩
noncomputable def gto_rd (out : Out) : Option (List (List Ct)) := some (hpL' out.up 1)
noncomputable def gto_res (x0 : List (List Ct)) : Option (List (List Ct)) := bif (gto_L0_p x0) then some ((gto_L0_v x0).snd) else none
set_option maxRecDepth 100000 in
theorem gto_tree {x0 : List (List Ct)} {v : List (List Ct)} (h : gto_res x0 = some v) : CallOk Try.prog 8 [.sv (.one (.ext 0))] [(0, .grid [.int .i64, .int .i64] x0)] 1 (gto_O v) :=
  eng_tree (C := (⟨consFix, fun f id nx => bif Nat.beq f 8 then (bif Nat.beq id 0 then some (gto_L0_lc x0) else none) else none, fun f => false, noFacts, fun _ => 4⟩ : Cfg Try.prog)) noFacts_ok (n := 30) (f := 8) gto_O gto_rd rfl (by kernel_rfl) h
noncomputable def gto_v (x0 : List (List Ct)) : List (List Ct) := tab (fun k => [.i (rd x0 k 0).int, .i (rd x0 k 1).int]) x0.length
theorem gto_spec (x0 : List (List Ct)) (h : (decide (x0.length ≤ 1000)) = true) : gto_res x0 = some (gto_v x0) := by
  have h := of_decide_eq_true h
  obtain ⟨h1, h2⟩ := gto_L0_done x0 (by omega) h
  have ht : nfold (gto_L0_F x0) x0.length [] = tab (fun k => [.i (rd x0 k 0).int, .i (rd x0 k 1).int]) x0.length := nfold_tab (fun k a => rfl) _
  rw [ht] at h2
  simp only [gto_res, gto_v, h1, h2, cond_true]
noncomputable def gto_m (args : List RV) (hp : Hp) : Option ((List (List Ct)) × List Nat) := match args with
  | [.sv (.one (.ext i0))] => (match gridAt hp i0 [.int .i64, .int .i64] with
    | some x0 => some (x0, [i0])
    | _ => none)
  | _ => none
noncomputable def gto_con : Con Try.prog := conX Try.prog 8 gto_m 1 (fun x => [.sv (.one (.ext 0))]) (fun x => [(0, .grid [.int .i64, .int .i64] x)]) (fun x => some (decide (x.length ≤ 1000))) (fun x => gto_O (gto_v x))
  (by
    intro args hp x r h
    unfold gto_m at h
    split at h
    · split at h
      · rename_i g0
        cases h
        refine ⟨rfl, fun nx => ⟨rfl, ?_, ?_⟩⟩
        · intro i hi
          simp only [List.mem_cons, List.not_mem_nil, or_false] at hi
          rcases hi with rfl
          · exact ⟨_, List.mem_of_getElem? (i := 0) rfl, .inl (by simp [RV.ids, SV.ids, CV.ids])⟩
        · intro id o0 ho
          have := hlook_mem ho
          simp only [List.mem_cons, Prod.mk.injEq, List.not_mem_nil, or_false] at this
          rcases this with ⟨rfl, rfl⟩
          · exact ⟨_, gridAt_spec g0, rfl⟩
      · cases h
    · cases h)
  (fun x h => ⟨rfl, rfl, gto_tree (gto_spec x (h _ rfl))⟩)
noncomputable def consGrade3 : List (Con Try.prog) := [gto_con, cat_con.freeze, rat_con.freeze, crise_con.freeze, rrise_con.freeze] ++ consGrade1
end Go.Proofs.Ytonlllijdbjkaaa
