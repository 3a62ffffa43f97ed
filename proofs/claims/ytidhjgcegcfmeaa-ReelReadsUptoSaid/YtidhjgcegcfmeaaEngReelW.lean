/- What fits; two bytes each of any numbers. No condition. -/
import Derived.Test.YtidhjgcegcfmeaaEngReel
import Derived.Test.YtidhjgcegcfmeaaIter
import Derived.Test.YtidhjgcegcfmeaaEng19
set_option linter.unusedVariables false
set_option linter.unusedSimpArgs false
namespace Go.Proofs.Ytidhjgcegcfmeaa
open Go.RowKit

theorem opt_get {α : Type} [Inhabited α] {o : Option α} (h : o.isSome = true) : o = some (o.getD default) := by cases o with | none => cases h | some v => rfl

noncomputable def fits_L0_S (x0 : List (List Ct)) (v : Int) : St := ⟨[.sv (.one (.ext 0)), .dead, .sv (.one (.val true (.bool false))), .dead, .dead, .sv (.one (.ext 0)), .sv (.one (.val false (.int .i64 (↑x0.length : Int)))), .sv (.one (.val false (.int .i64 v))), .dead, .dead, .dead, .dead, .dead, .dead, .dead, .dead, .dead, .dead, .dead], [(0, .grid (have y :=   have y :=     have y := [Sh.int IntKind.u8, Sh.int IntKind.u8, Sh.int IntKind.u8, Sh.sl [Sh.int IntKind.u8], Sh.int IntKind.i64];     Sh.int IntKind.u8 :: Sh.int IntKind.u8 :: Sh.int IntKind.u8 :: Sh.int IntKind.u8 :: Sh.int IntKind.u8 :: y;   have y := Sh.int IntKind.u8 :: Sh.int IntKind.u8 :: Sh.int IntKind.u8 :: Sh.int IntKind.u8 :: Sh.int IntKind.u8 :: y;   Sh.int IntKind.u8 :: Sh.int IntKind.u8 :: Sh.int IntKind.u8 :: Sh.int IntKind.u8 :: Sh.int IntKind.u8 :: y; have y :=   have y := Sh.int IntKind.u8 :: Sh.int IntKind.u8 :: Sh.int IntKind.u8 :: Sh.int IntKind.u8 :: Sh.int IntKind.u8 :: y;   Sh.int IntKind.u8 :: Sh.int IntKind.u8 :: Sh.int IntKind.u8 :: Sh.int IntKind.u8 :: Sh.int IntKind.u8 :: y; have y := Sh.int IntKind.i64 :: Sh.int IntKind.u8 :: Sh.int IntKind.u8 :: Sh.int IntKind.u8 :: Sh.int IntKind.u8 :: y; Sh.int IntKind.i64 :: Sh.int IntKind.i64 :: Sh.int IntKind.i64 :: Sh.int IntKind.i64 :: y) x0)], 1, []⟩
noncomputable def fits_L0_T (x0 : List (List Ct)) : (Int) ⊕ (Unit) → Ex × St
  | .inl v => ((.exit 0), ⟨[.sv (.one (.ext 0)), .dead, .sv (.one (.val true (.bool false))), .dead, .dead, .sv (.one (.ext 0)), .sv (.one (.val false (.int .i64 (↑x0.length : Int)))), .sv (.one (.val false (.int .i64 v))), .dead, .dead, .dead, .dead, .dead, .dead, .dead, .dead, .dead, .dead, .dead], [(0, .grid (have y :=   have y :=     have y := [Sh.int IntKind.u8, Sh.int IntKind.u8, Sh.int IntKind.u8, Sh.sl [Sh.int IntKind.u8], Sh.int IntKind.i64];     Sh.int IntKind.u8 :: Sh.int IntKind.u8 :: Sh.int IntKind.u8 :: Sh.int IntKind.u8 :: Sh.int IntKind.u8 :: y;   have y := Sh.int IntKind.u8 :: Sh.int IntKind.u8 :: Sh.int IntKind.u8 :: Sh.int IntKind.u8 :: Sh.int IntKind.u8 :: y;   Sh.int IntKind.u8 :: Sh.int IntKind.u8 :: Sh.int IntKind.u8 :: Sh.int IntKind.u8 :: Sh.int IntKind.u8 :: y; have y :=   have y := Sh.int IntKind.u8 :: Sh.int IntKind.u8 :: Sh.int IntKind.u8 :: Sh.int IntKind.u8 :: Sh.int IntKind.u8 :: y;   Sh.int IntKind.u8 :: Sh.int IntKind.u8 :: Sh.int IntKind.u8 :: Sh.int IntKind.u8 :: Sh.int IntKind.u8 :: y; have y := Sh.int IntKind.i64 :: Sh.int IntKind.u8 :: Sh.int IntKind.u8 :: Sh.int IntKind.u8 :: Sh.int IntKind.u8 :: y; Sh.int IntKind.i64 :: Sh.int IntKind.i64 :: Sh.int IntKind.i64 :: Sh.int IntKind.i64 :: y) x0)], 2, []⟩)
  | .inr v => (.ret, ⟨[.dead, .dead, .sv (.one (.val true (.bool false))), .dead, .dead, .dead, .dead, .dead, .dead, .dead, .dead, .dead, .dead, .dead, .dead, .dead, .dead, .dead, .dead], [(0, .grid (have y :=   have y :=     have y := [Sh.int IntKind.u8, Sh.int IntKind.u8, Sh.int IntKind.u8, Sh.sl [Sh.int IntKind.u8], Sh.int IntKind.i64];     Sh.int IntKind.u8 :: Sh.int IntKind.u8 :: Sh.int IntKind.u8 :: Sh.int IntKind.u8 :: Sh.int IntKind.u8 :: y;   have y := Sh.int IntKind.u8 :: Sh.int IntKind.u8 :: Sh.int IntKind.u8 :: Sh.int IntKind.u8 :: Sh.int IntKind.u8 :: y;   Sh.int IntKind.u8 :: Sh.int IntKind.u8 :: Sh.int IntKind.u8 :: Sh.int IntKind.u8 :: Sh.int IntKind.u8 :: y; have y :=   have y := Sh.int IntKind.u8 :: Sh.int IntKind.u8 :: Sh.int IntKind.u8 :: Sh.int IntKind.u8 :: Sh.int IntKind.u8 :: y;   Sh.int IntKind.u8 :: Sh.int IntKind.u8 :: Sh.int IntKind.u8 :: Sh.int IntKind.u8 :: Sh.int IntKind.u8 :: y; have y := Sh.int IntKind.i64 :: Sh.int IntKind.u8 :: Sh.int IntKind.u8 :: Sh.int IntKind.u8 :: Sh.int IntKind.u8 :: y; Sh.int IntKind.i64 :: Sh.int IntKind.i64 :: Sh.int IntKind.i64 :: Sh.int IntKind.i64 :: y) x0)], 6, []⟩)
noncomputable def fits_L0_rd (ex : Ex) (s : St) : Option ((Int) ⊕ ((Int) ⊕ (Unit))) × List (Nat × Option Nat) := match ex with
  | .normal => (some (.inl (rI (frC s 7 0))), [])
  | .exit i => bif Nat.beq i 0 then (some (.inr (.inl (rI (frC s 7 0)))), []) else (none, [])
  | .ret => (some (.inr (.inr ())), [])
noncomputable def fits_L0_step (x0 : List (List Ct)) : (Int) → Option ((Int) ⊕ ((Int) ⊕ (Unit))) := fun v => match v with
  | vi0 => bif (decide (vi0 < (↑x0.length : Int))) then (bif (decide ((0 : Int) ≤ vi0 ∧ vi0 < (↑x0.length : Int))) then bif (decide ((↑(rd x0 vi0.toNat 37).rows.length : Int) > (3000 : Int))) then (some (.inr (.inr ()))) else some (.inl (IntKind.i64.wrap (vi0 + (1 : Int)))) else none) else some (.inr (.inl vi0))
noncomputable def fits_L0_c : Code := loopC Try.prog 7 0
set_option maxRecDepth 100000 in
theorem fits_L0_ok (x0 : List (List Ct)) : ∀ v, StepOk Try.prog 1 fits_L0_c (fits_L0_S x0) (fits_L0_T x0) v (fits_L0_step x0 v) := fun v => match v with | vi0 => eng_step (C := (⟨consReel, fun _ _ _ => none, fun f => false, noFacts, fun _ => 0⟩ : Cfg Try.prog)) noFacts_ok (n := 30) (f := 7) fits_L0_rd (fun r => by cases r <;> rfl) (by kernel_rfl)
noncomputable def fits_L0_p (x0 : List (List Ct)) : Bool := (iter (fits_L0_step x0) (x0.length + 1) 0).isSome
noncomputable def fits_L0_v (x0 : List (List Ct)) : (Int) ⊕ (Unit) := (iter (fits_L0_step x0) (x0.length + 1) 0).getD (.inl default)
noncomputable def fits_L0_lc (x0 : List (List Ct)) : LoopCon Try.prog := loopCon2 Try.prog 1 fits_L0_c [] (fits_L0_S x0) (fits_L0_T x0) 0 (fits_L0_step x0) (fits_L0_ok x0) (x0.length + 1) 0 (fits_L0_p x0) rfl (fits_L0_v x0) rfl
noncomputable def fits_O (v : Bool) : Out := ⟨.sv (.one (.val false (.bool v))), [], 6, []⟩
noncomputable def fits_rd (out : Out) : Option (Bool) := some (rB (rvC out.v 0 0))
noncomputable def fits_res (x0 : List (List Ct)) : Option (Bool) := bif (fits_L0_p x0) then bif (isL (fits_L0_v x0)) then (some (decide ((↑x0.length : Int) ≤ (60 : Int)))) else some false else none
set_option maxRecDepth 100000 in
theorem fits_tree {x0 : List (List Ct)} {v : Bool} (h : fits_res x0 = some v) : CallOk Try.prog 7 [.sv (.one (.ext 0))] [(0, .grid [.int .i64, .int .i64, .int .i64, .int .i64, .int .i64, .int .u8, .int .u8, .int .u8, .int .u8, .int .u8, .int .u8, .int .u8, .int .u8, .int .u8, .int .u8, .int .u8, .int .u8, .int .u8, .int .u8, .int .u8, .int .u8, .int .u8, .int .u8, .int .u8, .int .u8, .int .u8, .int .u8, .int .u8, .int .u8, .int .u8, .int .u8, .int .u8, .int .u8, .int .u8, .int .u8, .int .u8, .int .u8, .sl [.int .u8], .int .i64] x0)] 1 (fits_O v) :=
  eng_tree (C := (⟨consReel, fun f id nx => bif Nat.beq f 7 then (bif Nat.beq id 0 then some (fits_L0_lc x0) else none) else none, fun f => false, noFacts, fun _ => 0⟩ : Cfg Try.prog)) noFacts_ok (n := 30) (f := 7) fits_O fits_rd rfl (by kernel_rfl) h
noncomputable def fits_v (x0 : List (List Ct)) : Bool := (fits_res x0).getD default
theorem fits_spec (x0 : List (List Ct)) (h : ((fits_res x0).isSome) = true) : fits_res x0 = some (fits_v x0) := opt_get h
noncomputable def fits_m (args : List RV) (hp : Hp) : Option ((List (List Ct)) × List Nat) := match args with
  | [.sv (.one (.ext i0))] => (match gridAt hp i0 [.int .i64, .int .i64, .int .i64, .int .i64, .int .i64, .int .u8, .int .u8, .int .u8, .int .u8, .int .u8, .int .u8, .int .u8, .int .u8, .int .u8, .int .u8, .int .u8, .int .u8, .int .u8, .int .u8, .int .u8, .int .u8, .int .u8, .int .u8, .int .u8, .int .u8, .int .u8, .int .u8, .int .u8, .int .u8, .int .u8, .int .u8, .int .u8, .int .u8, .int .u8, .int .u8, .int .u8, .int .u8, .sl [.int .u8], .int .i64] with
    | some x0 => some (x0, [i0])
    | _ => none)
  | _ => none
noncomputable def fits_con : Con Try.prog := conX Try.prog 7 fits_m 1 (fun x => [.sv (.one (.ext 0))]) (fun x => [(0, .grid [.int .i64, .int .i64, .int .i64, .int .i64, .int .i64, .int .u8, .int .u8, .int .u8, .int .u8, .int .u8, .int .u8, .int .u8, .int .u8, .int .u8, .int .u8, .int .u8, .int .u8, .int .u8, .int .u8, .int .u8, .int .u8, .int .u8, .int .u8, .int .u8, .int .u8, .int .u8, .int .u8, .int .u8, .int .u8, .int .u8, .int .u8, .int .u8, .int .u8, .int .u8, .int .u8, .int .u8, .int .u8, .sl [.int .u8], .int .i64] x)]) (fun x => some ((fits_res x).isSome)) (fun x => fits_O (fits_v x))
  (by
    intro args hp x r h
    unfold fits_m at h
    split at h
    · split at h
      · rename_i g0
        cases h
        refine ⟨rfl, fun nx => ⟨rfl, ?_, ?_⟩⟩
        · intro i hi
          simp only [List.mem_cons, List.not_mem_nil, or_false] at hi
          rcases hi with rfl
          · exact ⟨_, List.mem_of_getElem? (i := 0) rfl, .inl (by simp [RV.ids, SV.ids, CV.ids])⟩
        · intro id o0 ho
          have := hlook_mem ho
          simp only [List.mem_cons, Prod.mk.injEq, List.not_mem_nil, or_false] at this
          rcases this with ⟨rfl, rfl⟩
          · exact ⟨_, gridAt_spec g0, rfl⟩
      · cases h
    · cases h)
  (fun x h => ⟨rfl, rfl, fits_tree (fits_spec x (h _ rfl))⟩)

noncomputable def whalf_L0_S (x1 : List (List Ct)) (v : Int × List (List Ct)) : St := ⟨[.sv (.one (.ptr 0 0)), .sv (.one (.ext 1)), .dead, .dead, .dead, .dead, .sv (.one (.ext 1)), .sv (.one (.val false (.int .i64 (↑x1.length : Int)))), .sv (.one (.val false (.int .i64 v.1))), .dead, .dead, .dead, .dead, .dead, .dead, .dead, .dead], [(0, .cells [.ext 2] 74), (1, .grid ([Sh.int IntKind.i64]) x1), (2, .row ([Sh.int IntKind.u8]) 5 v.2)], 3, [0]⟩
noncomputable def whalf_L0_T (x1 : List (List Ct)) (v : Int × List (List Ct)) : Ex × St := ((.exit 0), ⟨[.sv (.one (.ptr 0 0)), .sv (.one (.ext 1)), .dead, .dead, .dead, .dead, .sv (.one (.ext 1)), .sv (.one (.val false (.int .i64 (↑x1.length : Int)))), .sv (.one (.val false (.int .i64 v.1))), .dead, .dead, .dead, .dead, .dead, .dead, .dead, .dead], [(0, .cells [.ext 2] 74), (1, .grid ([Sh.int IntKind.i64]) x1), (2, .row ([Sh.int IntKind.u8]) 5 v.2)], 4, [0]⟩)
noncomputable def whalf_L0_rd (ex : Ex) (s : St) : Option ((Int × List (List Ct)) ⊕ (Int × List (List Ct))) × List (Nat × Option Nat) := match ex with
  | .normal => (some (.inl (rI (frC s 8 0), rL s (hpC s 0 0))), [rnOf 2 (hpC s 0 0)])
  | .exit i => bif Nat.beq i 0 then (some (.inr (rI (frC s 8 0), rL s (hpC s 0 0))), [(2, some 2)]) else (none, [])
  | _ => (none, [])
noncomputable def whalf_L0_step (x1 : List (List Ct)) : (Int × List (List Ct)) → Option ((Int × List (List Ct)) ⊕ (Int × List (List Ct))) := fun v => match v with
  | (vi0, vl0) => bif (decide (vi0 < (↑x1.length : Int))) then (bif (decide ((0 : Int) ≤ vi0 ∧ vi0 < (↑x1.length : Int))) then bif (decide (vl0.length + [[Ct.i (IntKind.u8.wrap (IntKind.u64.wrap (rd x1 vi0.toNat 0).int))]].length ≤ 9223372036854775807 ∧ (vl0.length + [[Ct.i (IntKind.u8.wrap (IntKind.u64.wrap (rd x1 vi0.toNat 0).int))]].length) * 1 ≤ 140737488355328)) then bif (decide ((vl0 ++ [[Ct.i (IntKind.u8.wrap (IntKind.u64.wrap (rd x1 vi0.toNat 0).int))]]).length + [[Ct.i (IntKind.u8.wrap ((IntKind.u64.wrap (rd x1 vi0.toNat 0).int).fdiv ((2 : Int) ^ min (Int.toNat (8 : Int)) IntKind.u64.bits)))]].length ≤ 9223372036854775807 ∧ ((vl0 ++ [[Ct.i (IntKind.u8.wrap (IntKind.u64.wrap (rd x1 vi0.toNat 0).int))]]).length + [[Ct.i (IntKind.u8.wrap ((IntKind.u64.wrap (rd x1 vi0.toNat 0).int).fdiv ((2 : Int) ^ min (Int.toNat (8 : Int)) IntKind.u64.bits)))]].length) * 1 ≤ 140737488355328)) then some (.inl (IntKind.i64.wrap (vi0 + (1 : Int)), vl0 ++ [[Ct.i (IntKind.u8.wrap (IntKind.u64.wrap (rd x1 vi0.toNat 0).int))]] ++ [[Ct.i (IntKind.u8.wrap ((IntKind.u64.wrap (rd x1 vi0.toNat 0).int).fdiv ((2 : Int) ^ min (Int.toNat (8 : Int)) IntKind.u64.bits)))]])) else none else none else none) else some (.inr (vi0, vl0))
noncomputable def whalf_L0_c : Code := loopC Try.prog 13 0
set_option maxRecDepth 100000 in
theorem whalf_L0_ok (x1 : List (List Ct)) : ∀ v, StepOk Try.prog 2 whalf_L0_c (whalf_L0_S x1) (whalf_L0_T x1) v (whalf_L0_step x1 v) := fun v => match v with | (vi0, vl0) => eng_step (C := (⟨consReel, fun _ _ _ => none, fun f => false, noFacts, fun _ => 0⟩ : Cfg Try.prog)) noFacts_ok (n := 30) (f := 13) whalf_L0_rd (fun _ => rfl) (by kernel_rfl)
noncomputable def whalf_L0_p (x1 : List (List Ct)) : Bool := (iter (whalf_L0_step x1) (x1.length + 1) (0, [])).isSome
noncomputable def whalf_L0_v (x1 : List (List Ct)) : Int × List (List Ct) := loopRes (whalf_L0_step x1) (x1.length + 1) (0, [])
noncomputable def whalf_L0_lc (x1 : List (List Ct)) : LoopCon Try.prog := loopCon Try.prog 2 whalf_L0_c [(2, none)] (whalf_L0_S x1) (whalf_L0_T x1) 0 (whalf_L0_step x1) (whalf_L0_ok x1) (x1.length + 1) (0, []) (whalf_L0_p x1) rfl (whalf_L0_v x1) rfl
noncomputable def whalf_T (v : List (List Ct)) : St := ⟨[.dead, .dead, .dead, .dead, .dead, .dead, .dead, .dead, .dead, .dead, .dead, .dead, .dead, .dead, .dead, .dead, .dead], [(0, .cells [.ext 2] 74), (2, .row ([Sh.int IntKind.u8]) 5 v)], 4, [0]⟩
noncomputable def whalf_O (v : List (List Ct)) : Out := ⟨.tup [], [(2, .row ([Sh.int IntKind.u8]) 5 v), (0, .cells [.ext 2] 74)], 4, [0]⟩
noncomputable def whalf_rd (ex : Ex) (s : St) : Option (List (List Ct)) × List (Nat × Option Nat) := (some (rL s (hpC s 0 0)), [(2, some 2)])
noncomputable def whalf_res (x1 : List (List Ct)) : Option (List (List Ct)) := bif (whalf_L0_p x1) then some ((whalf_L0_v x1).snd) else none
set_option maxRecDepth 100000 in
theorem whalf_tree {x1 : List (List Ct)} {v : List (List Ct)} (h : whalf_res x1 = some v) : CallOk Try.prog 13 [.sv (.one (.ptr 0 0)), .sv (.one (.ext 1))] [(0, .cells [.val true (.slice none 0 0)] 74), (1, .grid [.int .i64] x1)] 2 (whalf_O v) :=
  eng_body (C := (⟨consReel, fun f id nx => bif Nat.beq f 13 then (bif Nat.beq id 0 then some (whalf_L0_lc x1) else none) else none, fun f => false, noFacts, fun _ => 0⟩ : Cfg Try.prog)) noFacts_ok (n := 30) (f := 13) whalf_T whalf_O whalf_rd rfl (fun r => rfl) (by kernel_rfl) h
noncomputable def whalf_v (x1 : List (List Ct)) : List (List Ct) := (whalf_res x1).getD default
theorem whalf_spec (x1 : List (List Ct)) (h : ((whalf_res x1).isSome) = true) : whalf_res x1 = some (whalf_v x1) := opt_get h
noncomputable def whalf_as : List ASh := [.ptr 74 [.nil], .one (.grid [.int .i64])]
noncomputable def whalf_con : Con Try.prog := conS Try.prog 13 whalf_as (fun x => some ((whalf_res (x.getD 1 (.i 0)).rows).isSome)) (fun x => whalf_O (whalf_v (x.getD 1 (.i 0)).rows))
  (fun x h => ⟨by kernel_rfl, by kernel_rfl, Eq.mp (by kernel_rfl) (whalf_tree (whalf_spec ((x.getD 1 (.i 0)).rows) (h _ rfl)))⟩)
noncomputable def consReelW : List (Con Try.prog) := [fits_con, whalf_con] ++ consReel
end Go.Proofs.Ytidhjgcegcfmeaa
