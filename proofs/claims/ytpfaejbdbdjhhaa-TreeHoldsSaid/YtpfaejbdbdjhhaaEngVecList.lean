/- What the functions of layer 2 on lists of points compute. No condition. -/
import Derived.Test.YtpfaejbdbdjhhaaEngVec
import Derived.Test.YtpfaejbdbdjhhaaLoopA
set_option linter.unusedVariables false
set_option linter.unusedSimpArgs false
namespace Go.Proofs.Ytpfaejbdbdjhhaa
open Go.RowKit

noncomputable def vleast_L0_S (x0_0 x0_1 x0_2 : Int) (x1 : List (List Ct)) (v : Int × Int × Int × Int) : St := ⟨[.sv (.agg [.q x0_0, .q x0_1, .q x0_2]), .o (.ext 0), .o (.ptr 1 0), .d, .o (.ptr 2 0), .d, .d, .o (.ext 0), .o (.q (↑x1.length : Int)), .o (.q v.1), .d, .d, .d, .d, .d, .d, .d, .d], [(0, .grid ([Sh.int IntKind.i64, Sh.int IntKind.i64, Sh.int IntKind.i64]) x1), (1, .cells [.q v.2.1, .q v.2.2.1, .q v.2.2.2] 39), (2, .cells [.val true (.int .i64 0), .val true (.int .i64 0), .val true (.int .i64 0)] 39)], 3, []⟩
noncomputable def vleast_L0_T (x0_0 x0_1 x0_2 : Int) (x1 : List (List Ct)) (v : Int × Int × Int × Int) : Ex × St := ((.exit 0), ⟨(vleast_L0_S x0_0 x0_1 x0_2 x1 v).fr, (vleast_L0_S x0_0 x0_1 x0_2 x1 v).hp, 4, []⟩)
noncomputable def vleast_L0_rd (ex : Ex) (s : St) : Option ((Int × Int × Int × Int) ⊕ (Int × Int × Int × Int)) × List (Nat × Option Nat) := match ex with
  | .normal => (some (.inl (rI (frC s 9 0), rI (hpC s 1 0), rI (hpC s 1 1), rI (hpC s 1 2))), [(1, some 1), (2, some 2)])
  | .exit i => bif Nat.beq i 0 then (some (.inr (rI (frC s 9 0), rI (hpC s 1 0), rI (hpC s 1 1), rI (hpC s 1 2))), [(1, some 1), (2, some 2)]) else (none, [])
  | _ => (none, [])
noncomputable def vleast_L0_step (x0_0 x0_1 x0_2 : Int) (x1 : List (List Ct)) : (Int × Int × Int × Int) → Option ((Int × Int × Int × Int) ⊕ (Int × Int × Int × Int)) := fun v => match v with
  | (vi0, vi1, vi2, vi3) => bif (decide (vi0 < (↑x1.length : Int))) then (bif (decide ((0 : Int) ≤ vi0 ∧ vi0 < (↑x1.length : Int))) then some (.inl (IntKind.i64.wrap (vi0 + (1 : Int)), if (rd x1 vi0.toNat 0).int < vi1 then (rd x1 vi0.toNat 0).int else vi1, if (rd x1 vi0.toNat 1).int < vi2 then (rd x1 vi0.toNat 1).int else vi2, if (rd x1 vi0.toNat 2).int < vi3 then (rd x1 vi0.toNat 2).int else vi3)) else none) else some (.inr (vi0, vi1, vi2, vi3))
noncomputable def vleast_L0_c : Code := loopC Try.prog 30 0
set_option maxRecDepth 100000 in
theorem vleast_L0_ok (x0_0 x0_1 x0_2 : Int) (x1 : List (List Ct)) : ∀ v, StepOk Try.prog 1 vleast_L0_c (vleast_L0_S x0_0 x0_1 x0_2 x1) (vleast_L0_T x0_0 x0_1 x0_2 x1) v (vleast_L0_step x0_0 x0_1 x0_2 x1 v) := fun v => match v with | (vi0, vi1, vi2, vi3) => eng_step (C := (⟨consVec, fun _ _ _ => none, fun f => false, noFacts, fun _ => 4⟩ : Cfg Try.prog)) noFacts_ok (n := 30) (f := 30) vleast_L0_rd (fun _ => rfl) (by kernel_rfl)
noncomputable def vleast_L0_p (x0_0 x0_1 x0_2 : Int) (x1 : List (List Ct)) : Bool := (iter (vleast_L0_step x0_0 x0_1 x0_2 x1) (x1.length + 1) (0, x0_0, x0_1, x0_2)).isSome
noncomputable def vleast_L0_v (x0_0 x0_1 x0_2 : Int) (x1 : List (List Ct)) : Int × Int × Int × Int := loopRes (vleast_L0_step x0_0 x0_1 x0_2 x1) (x1.length + 1) (0, x0_0, x0_1, x0_2)
set_option maxRecDepth 100000 in
noncomputable def vleast_L0_lc (x0_0 x0_1 x0_2 : Int) (x1 : List (List Ct)) : LoopCon Try.prog := loopCon Try.prog 1 vleast_L0_c [(1, some 1), (2, some 2)] (vleast_L0_S x0_0 x0_1 x0_2 x1) (vleast_L0_T x0_0 x0_1 x0_2 x1) 0 (vleast_L0_step x0_0 x0_1 x0_2 x1) (vleast_L0_ok x0_0 x0_1 x0_2 x1) (x1.length + 1) (0, x0_0, x0_1, x0_2) (vleast_L0_p x0_0 x0_1 x0_2 x1) rfl (vleast_L0_v x0_0 x0_1 x0_2 x1) rfl
def vleastF (l : List (List Ct)) (k : Nat) (a : Int × Int × Int) : Int × Int × Int := (if (rd l k 0).int < a.1 then (rd l k 0).int else a.1, if (rd l k 1).int < a.2.1 then (rd l k 1).int else a.2.1, if (rd l k 2).int < a.2.2 then (rd l k 2).int else a.2.2)
noncomputable def vleast_O (v : Int × Int × Int) : Out := ⟨.sv (.agg [.val false (.int .i64 v.1), .val false (.int .i64 v.2.1), .val false (.int .i64 v.2.2)]), [], 4, []⟩
noncomputable def vleast_rd (out : Out) : Option (Int × Int × Int) := some (rI (rvC out.v 0 0), rI (rvC out.v 0 1), rI (rvC out.v 0 2))
noncomputable def vleast_res (x0_0 x0_1 x0_2 : Int) (x1 : List (List Ct)) : Option (Int × Int × Int) := bif (vleast_L0_p x0_0 x0_1 x0_2 x1) then some ((vleast_L0_v x0_0 x0_1 x0_2 x1).snd.fst, (vleast_L0_v x0_0 x0_1 x0_2 x1).snd.snd.fst, (vleast_L0_v x0_0 x0_1 x0_2 x1).snd.snd.snd) else none
set_option maxRecDepth 100000 in
theorem vleast_tree {x0_0 x0_1 x0_2 : Int} {x1 : List (List Ct)} {v : Int × Int × Int} (h : vleast_res x0_0 x0_1 x0_2 x1 = some v) : CallOk Try.prog 30 [.sv (.agg [.val false (.int .i64 x0_0), .val false (.int .i64 x0_1), .val false (.int .i64 x0_2)]), .sv (.one (.ext 0))] [(0, .grid [.int .i64, .int .i64, .int .i64] x1)] 1 (vleast_O v) :=
  eng_tree (C := (⟨consVec, fun f id nx => bif Nat.beq f 30 then (bif Nat.beq id 0 then some (vleast_L0_lc x0_0 x0_1 x0_2 x1) else none) else none, fun f => false, noFacts, fun _ => 4⟩ : Cfg Try.prog)) noFacts_ok (n := 30) (f := 30) vleast_O vleast_rd rfl (by kernel_rfl) h
noncomputable def vleast_v (x0_0 x0_1 x0_2 : Int) (x1 : List (List Ct)) : Int × Int × Int := nfold (vleastF x1) x1.length (x0_0, x0_1, x0_2)
theorem vleast_spec (x0_0 x0_1 x0_2 : Int) (x1 : List (List Ct)) (h : (decide (x1.length ≤ 9223372036854775807)) = true) : vleast_res x0_0 x0_1 x0_2 x1 = some (vleast_v x0_0 x0_1 x0_2 x1) := by
  have h := of_decide_eq_true h
  have := iter_range (step := vleast_L0_step x0_0 x0_1 x0_2 x1) (fun k (a : Int × Int × Int) => ((k : Int), a.1, a.2.1, a.2.2)) (fun _ _ => True) (f := vleastF x1) (out := fun a => ((x1.length : Int), a.1, a.2.1, a.2.2)) (n := x1.length) (m := x1.length + 1) (v := (0, x0_0, x0_1, x0_2)) (a0 := (x0_0, x0_1, x0_2)) rfl (by omega)
    (fun k hk a _ => ⟨by simp [vleast_L0_step, vleastF, hk, wrap_in (n := (k : Int) + 1) (by omega) (by omega)], trivial⟩) (fun a _ => by simp [vleast_L0_step]) trivial
  simp only [vleast_res, vleast_v, vleast_L0_p, vleast_L0_v, loopRes, this, Option.isSome_some, cond_true, Option.getD_some]
noncomputable def vleast_m (args : List RV) (hp : Hp) : Option ((Int × Int × Int × List (List Ct)) × List Nat) := match args with
  | [.sv (.agg [.val _ (.int .i64 x0_0), .val _ (.int .i64 x0_1), .val _ (.int .i64 x0_2)]), .sv (.one (.ext i0))] => (match gridAt hp i0 [.int .i64, .int .i64, .int .i64] with
    | some x1 => some ((x0_0, x0_1, x0_2, x1), [i0])
    | _ => none)
  | _ => none
noncomputable def vleast_con : Con Try.prog := conX Try.prog 30 vleast_m 1 (fun x => [.sv (.agg [.val false (.int .i64 x.1), .val false (.int .i64 x.2.1), .val false (.int .i64 x.2.2.1)]), .sv (.one (.ext 0))]) (fun x => [(0, .grid [.int .i64, .int .i64, .int .i64] x.2.2.2)]) (fun x => some (decide (x.2.2.2.length ≤ 9223372036854775807))) (fun x => vleast_O (vleast_v x.1 x.2.1 x.2.2.1 x.2.2.2))
  (by
    intro args hp x r h
    unfold vleast_m at h
    split at h
    · split at h
      · rename_i g0
        cases h
        refine ⟨rfl, fun nx => ⟨rfl, ?_, ?_⟩⟩
        · intro i hi
          simp only [List.mem_cons, List.not_mem_nil, or_false] at hi
          rcases hi with rfl
          · exact ⟨_, List.mem_of_getElem? (i := 1) rfl, .inl (by simp [RV.ids, SV.ids, CV.ids])⟩
        · intro id o0 ho
          have := hlook_mem ho
          simp only [List.mem_cons, Prod.mk.injEq, List.not_mem_nil, or_false] at this
          rcases this with ⟨rfl, rfl⟩
          · exact ⟨_, gridAt_spec g0, rfl⟩
      · cases h
    · cases h)
  (fun x h => ⟨rfl, rfl, vleast_tree (vleast_spec x.1 x.2.1 x.2.2.1 x.2.2.2 (h _ rfl))⟩)

noncomputable def vgreat_L0_S (x0_0 x0_1 x0_2 : Int) (x1 : List (List Ct)) (v : Int × Int × Int × Int) : St := ⟨[.sv (.agg [.q x0_0, .q x0_1, .q x0_2]), .o (.ext 0), .o (.ptr 1 0), .d, .o (.ptr 2 0), .d, .d, .o (.ext 0), .o (.q (↑x1.length : Int)), .o (.q v.1), .d, .d, .d, .d, .d, .d, .d, .d], [(0, .grid ([Sh.int IntKind.i64, Sh.int IntKind.i64, Sh.int IntKind.i64]) x1), (1, .cells [.q v.2.1, .q v.2.2.1, .q v.2.2.2] 39), (2, .cells [.val true (.int .i64 0), .val true (.int .i64 0), .val true (.int .i64 0)] 39)], 3, []⟩
noncomputable def vgreat_L0_T (x0_0 x0_1 x0_2 : Int) (x1 : List (List Ct)) (v : Int × Int × Int × Int) : Ex × St := ((.exit 0), ⟨(vgreat_L0_S x0_0 x0_1 x0_2 x1 v).fr, (vgreat_L0_S x0_0 x0_1 x0_2 x1 v).hp, 4, []⟩)
noncomputable def vgreat_L0_rd (ex : Ex) (s : St) : Option ((Int × Int × Int × Int) ⊕ (Int × Int × Int × Int)) × List (Nat × Option Nat) := match ex with
  | .normal => (some (.inl (rI (frC s 9 0), rI (hpC s 1 0), rI (hpC s 1 1), rI (hpC s 1 2))), [(1, some 1), (2, some 2)])
  | .exit i => bif Nat.beq i 0 then (some (.inr (rI (frC s 9 0), rI (hpC s 1 0), rI (hpC s 1 1), rI (hpC s 1 2))), [(1, some 1), (2, some 2)]) else (none, [])
  | _ => (none, [])
noncomputable def vgreat_L0_step (x0_0 x0_1 x0_2 : Int) (x1 : List (List Ct)) : (Int × Int × Int × Int) → Option ((Int × Int × Int × Int) ⊕ (Int × Int × Int × Int)) := fun v => match v with
  | (vi0, vi1, vi2, vi3) => bif (decide (vi0 < (↑x1.length : Int))) then (bif (decide ((0 : Int) ≤ vi0 ∧ vi0 < (↑x1.length : Int))) then some (.inl (IntKind.i64.wrap (vi0 + (1 : Int)), if (rd x1 vi0.toNat 0).int > vi1 then (rd x1 vi0.toNat 0).int else vi1, if (rd x1 vi0.toNat 1).int > vi2 then (rd x1 vi0.toNat 1).int else vi2, if (rd x1 vi0.toNat 2).int > vi3 then (rd x1 vi0.toNat 2).int else vi3)) else none) else some (.inr (vi0, vi1, vi2, vi3))
noncomputable def vgreat_L0_c : Code := loopC Try.prog 31 0
set_option maxRecDepth 100000 in
theorem vgreat_L0_ok (x0_0 x0_1 x0_2 : Int) (x1 : List (List Ct)) : ∀ v, StepOk Try.prog 1 vgreat_L0_c (vgreat_L0_S x0_0 x0_1 x0_2 x1) (vgreat_L0_T x0_0 x0_1 x0_2 x1) v (vgreat_L0_step x0_0 x0_1 x0_2 x1 v) := fun v => match v with | (vi0, vi1, vi2, vi3) => eng_step (C := (⟨consVec, fun _ _ _ => none, fun f => false, noFacts, fun _ => 4⟩ : Cfg Try.prog)) noFacts_ok (n := 30) (f := 31) vgreat_L0_rd (fun _ => rfl) (by kernel_rfl)
noncomputable def vgreat_L0_p (x0_0 x0_1 x0_2 : Int) (x1 : List (List Ct)) : Bool := (iter (vgreat_L0_step x0_0 x0_1 x0_2 x1) (x1.length + 1) (0, x0_0, x0_1, x0_2)).isSome
noncomputable def vgreat_L0_v (x0_0 x0_1 x0_2 : Int) (x1 : List (List Ct)) : Int × Int × Int × Int := loopRes (vgreat_L0_step x0_0 x0_1 x0_2 x1) (x1.length + 1) (0, x0_0, x0_1, x0_2)
set_option maxRecDepth 100000 in
noncomputable def vgreat_L0_lc (x0_0 x0_1 x0_2 : Int) (x1 : List (List Ct)) : LoopCon Try.prog := loopCon Try.prog 1 vgreat_L0_c [(1, some 1), (2, some 2)] (vgreat_L0_S x0_0 x0_1 x0_2 x1) (vgreat_L0_T x0_0 x0_1 x0_2 x1) 0 (vgreat_L0_step x0_0 x0_1 x0_2 x1) (vgreat_L0_ok x0_0 x0_1 x0_2 x1) (x1.length + 1) (0, x0_0, x0_1, x0_2) (vgreat_L0_p x0_0 x0_1 x0_2 x1) rfl (vgreat_L0_v x0_0 x0_1 x0_2 x1) rfl
def vgreatF (l : List (List Ct)) (k : Nat) (a : Int × Int × Int) : Int × Int × Int := (if (rd l k 0).int > a.1 then (rd l k 0).int else a.1, if (rd l k 1).int > a.2.1 then (rd l k 1).int else a.2.1, if (rd l k 2).int > a.2.2 then (rd l k 2).int else a.2.2)
noncomputable def vgreat_O (v : Int × Int × Int) : Out := ⟨.sv (.agg [.val false (.int .i64 v.1), .val false (.int .i64 v.2.1), .val false (.int .i64 v.2.2)]), [], 4, []⟩
noncomputable def vgreat_rd (out : Out) : Option (Int × Int × Int) := some (rI (rvC out.v 0 0), rI (rvC out.v 0 1), rI (rvC out.v 0 2))
noncomputable def vgreat_res (x0_0 x0_1 x0_2 : Int) (x1 : List (List Ct)) : Option (Int × Int × Int) := bif (vgreat_L0_p x0_0 x0_1 x0_2 x1) then some ((vgreat_L0_v x0_0 x0_1 x0_2 x1).snd.fst, (vgreat_L0_v x0_0 x0_1 x0_2 x1).snd.snd.fst, (vgreat_L0_v x0_0 x0_1 x0_2 x1).snd.snd.snd) else none
set_option maxRecDepth 100000 in
theorem vgreat_tree {x0_0 x0_1 x0_2 : Int} {x1 : List (List Ct)} {v : Int × Int × Int} (h : vgreat_res x0_0 x0_1 x0_2 x1 = some v) : CallOk Try.prog 31 [.sv (.agg [.val false (.int .i64 x0_0), .val false (.int .i64 x0_1), .val false (.int .i64 x0_2)]), .sv (.one (.ext 0))] [(0, .grid [.int .i64, .int .i64, .int .i64] x1)] 1 (vgreat_O v) :=
  eng_tree (C := (⟨consVec, fun f id nx => bif Nat.beq f 31 then (bif Nat.beq id 0 then some (vgreat_L0_lc x0_0 x0_1 x0_2 x1) else none) else none, fun f => false, noFacts, fun _ => 4⟩ : Cfg Try.prog)) noFacts_ok (n := 30) (f := 31) vgreat_O vgreat_rd rfl (by kernel_rfl) h
noncomputable def vgreat_v (x0_0 x0_1 x0_2 : Int) (x1 : List (List Ct)) : Int × Int × Int := nfold (vgreatF x1) x1.length (x0_0, x0_1, x0_2)
theorem vgreat_spec (x0_0 x0_1 x0_2 : Int) (x1 : List (List Ct)) (h : (decide (x1.length ≤ 9223372036854775807)) = true) : vgreat_res x0_0 x0_1 x0_2 x1 = some (vgreat_v x0_0 x0_1 x0_2 x1) := by
  have h := of_decide_eq_true h
  have := iter_range (step := vgreat_L0_step x0_0 x0_1 x0_2 x1) (fun k (a : Int × Int × Int) => ((k : Int), a.1, a.2.1, a.2.2)) (fun _ _ => True) (f := vgreatF x1) (out := fun a => ((x1.length : Int), a.1, a.2.1, a.2.2)) (n := x1.length) (m := x1.length + 1) (v := (0, x0_0, x0_1, x0_2)) (a0 := (x0_0, x0_1, x0_2)) rfl (by omega)
    (fun k hk a _ => ⟨by simp [vgreat_L0_step, vgreatF, hk, wrap_in (n := (k : Int) + 1) (by omega) (by omega)], trivial⟩) (fun a _ => by simp [vgreat_L0_step]) trivial
  simp only [vgreat_res, vgreat_v, vgreat_L0_p, vgreat_L0_v, loopRes, this, Option.isSome_some, cond_true, Option.getD_some]
noncomputable def vgreat_m (args : List RV) (hp : Hp) : Option ((Int × Int × Int × List (List Ct)) × List Nat) := match args with
  | [.sv (.agg [.val _ (.int .i64 x0_0), .val _ (.int .i64 x0_1), .val _ (.int .i64 x0_2)]), .sv (.one (.ext i0))] => (match gridAt hp i0 [.int .i64, .int .i64, .int .i64] with
    | some x1 => some ((x0_0, x0_1, x0_2, x1), [i0])
    | _ => none)
  | _ => none
noncomputable def vgreat_con : Con Try.prog := conX Try.prog 31 vgreat_m 1 (fun x => [.sv (.agg [.val false (.int .i64 x.1), .val false (.int .i64 x.2.1), .val false (.int .i64 x.2.2.1)]), .sv (.one (.ext 0))]) (fun x => [(0, .grid [.int .i64, .int .i64, .int .i64] x.2.2.2)]) (fun x => some (decide (x.2.2.2.length ≤ 9223372036854775807))) (fun x => vgreat_O (vgreat_v x.1 x.2.1 x.2.2.1 x.2.2.2))
  (by
    intro args hp x r h
    unfold vgreat_m at h
    split at h
    · split at h
      · rename_i g0
        cases h
        refine ⟨rfl, fun nx => ⟨rfl, ?_, ?_⟩⟩
        · intro i hi
          simp only [List.mem_cons, List.not_mem_nil, or_false] at hi
          rcases hi with rfl
          · exact ⟨_, List.mem_of_getElem? (i := 1) rfl, .inl (by simp [RV.ids, SV.ids, CV.ids])⟩
        · intro id o0 ho
          have := hlook_mem ho
          simp only [List.mem_cons, Prod.mk.injEq, List.not_mem_nil, or_false] at this
          rcases this with ⟨rfl, rfl⟩
          · exact ⟨_, gridAt_spec g0, rfl⟩
      · cases h
    · cases h)
  (fun x h => ⟨rfl, rfl, vgreat_tree (vgreat_spec x.1 x.2.1 x.2.2.1 x.2.2.2 (h _ rfl))⟩)

noncomputable def rends_L0_S (x0 : List (List Ct)) (v : Int × Int × Int × Int × Int × Int × Int) : St := ⟨[.o (.ext 0), .d, .o (.ptr 1 0), .o (.ptr 2 0), .o (.ptr 5 0), .o (.ptr 6 0), .o (.q v.1), .d, .o (.ext 0), .o (.eptr 3 0), .sv (.agg [.q ((rd x0 (Int.toNat (0 : Int)) 0).int), .q ((rd x0 (Int.toNat (0 : Int)) 1).int), .q ((rd x0 (Int.toNat (0 : Int)) 2).int)]), .o (.ext 0), .o (.eptr 4 0), .sv (.agg [.q ((rd x0 (Int.toNat (0 : Int)) 0).int), .q ((rd x0 (Int.toNat (0 : Int)) 1).int), .q ((rd x0 (Int.toNat (0 : Int)) 2).int)]), .d, .d, .d, .d, .d, .d, .d, .d, .d, .d, .d, .d, .d, .d, .d, .d, .d, .d, .d, .d, .d, .d, .d, .d, .d, .d, .d, .d, .d, .d, .d, .d, .d, .d, .d, .d, .d, .d, .d, .d, .d, .d, .d, .d, .d, .d, .d, .d], [(0, .grid ([Sh.int IntKind.i64, Sh.int IntKind.i64, Sh.int IntKind.i64]) x0), (1, .cells [.val true (.int .i64 0), .val true (.int .i64 0), .val true (.int .i64 0)] 47), (2, .cells [.val true (.int .i64 0), .val true (.int .i64 0), .val true (.int .i64 0)] 47), (3, .elem 0 0 3), (4, .elem 0 0 3), (5, .cells [.q v.2.1, .q v.2.2.1, .q v.2.2.2.1] 47), (6, .cells [.q v.2.2.2.2.1, .q v.2.2.2.2.2.1, .q v.2.2.2.2.2.2] 47)], 7, []⟩
noncomputable def rends_L0_T (x0 : List (List Ct)) (v : Int × Int × Int × Int × Int × Int × Int) : Ex × St := ((.exit 0), ⟨(rends_L0_S x0 v).fr, (rends_L0_S x0 v).hp, 8, []⟩)
noncomputable def rends_L0_rd (ex : Ex) (s : St) : Option ((Int × Int × Int × Int × Int × Int × Int) ⊕ (Int × Int × Int × Int × Int × Int × Int)) × List (Nat × Option Nat) := match ex with
  | .normal => (some (.inl (rI (frC s 6 0), rI (hpC s 5 0), rI (hpC s 5 1), rI (hpC s 5 2), rI (hpC s 6 0), rI (hpC s 6 1), rI (hpC s 6 2))), [(1, some 1), (2, some 2), (3, some 3), (4, some 4), (5, some 5), (6, some 6)])
  | .exit i => bif Nat.beq i 0 then (some (.inr (rI (frC s 6 0), rI (hpC s 5 0), rI (hpC s 5 1), rI (hpC s 5 2), rI (hpC s 6 0), rI (hpC s 6 1), rI (hpC s 6 2))), [(1, some 1), (2, some 2), (3, some 3), (4, some 4), (5, some 5), (6, some 6)]) else (none, [])
  | _ => (none, [])
noncomputable def rends_L0_step (x0 : List (List Ct)) : (Int × Int × Int × Int × Int × Int × Int) → Option ((Int × Int × Int × Int × Int × Int × Int) ⊕ (Int × Int × Int × Int × Int × Int × Int)) := fun v => match v with
  | (vi0, vi1, vi2, vi3, vi4, vi5, vi6) => bif (decide (vi0 < (↑x0.length : Int))) then (bif (decide ((0 : Int) ≤ vi0 ∧ vi0 < (↑x0.length : Int))) then bif (bif decide ((rd x0 vi0.toNat 0).int < vi1) then decide ((0 : Int) ≤ vi0 ∧ vi0 < (↑x0.length : Int)) else true) then bif (decide ((0 : Int) ≤ vi0 ∧ vi0 < (↑x0.length : Int))) then bif (bif decide ((rd x0 vi0.toNat 0).int > vi4) then decide ((0 : Int) ≤ vi0 ∧ vi0 < (↑x0.length : Int)) else true) then bif (decide ((0 : Int) ≤ vi0 ∧ vi0 < (↑x0.length : Int))) then bif (bif decide ((rd x0 vi0.toNat 1).int < vi2) then decide ((0 : Int) ≤ vi0 ∧ vi0 < (↑x0.length : Int)) else true) then bif (decide ((0 : Int) ≤ vi0 ∧ vi0 < (↑x0.length : Int))) then bif (bif decide ((rd x0 vi0.toNat 1).int > vi5) then decide ((0 : Int) ≤ vi0 ∧ vi0 < (↑x0.length : Int)) else true) then bif (decide ((0 : Int) ≤ vi0 ∧ vi0 < (↑x0.length : Int))) then bif (bif decide ((rd x0 vi0.toNat 2).int < vi3) then decide ((0 : Int) ≤ vi0 ∧ vi0 < (↑x0.length : Int)) else true) then bif (decide ((0 : Int) ≤ vi0 ∧ vi0 < (↑x0.length : Int))) then bif (bif decide ((rd x0 vi0.toNat 2).int > vi6) then decide ((0 : Int) ≤ vi0 ∧ vi0 < (↑x0.length : Int)) else true) then some (.inl (IntKind.i64.wrap (vi0 + (1 : Int)), bif decide ((rd x0 vi0.toNat 0).int < vi1) then (rd x0 vi0.toNat 0).int else vi1, bif decide ((rd x0 vi0.toNat 1).int < vi2) then (rd x0 vi0.toNat 1).int else vi2, bif decide ((rd x0 vi0.toNat 2).int < vi3) then (rd x0 vi0.toNat 2).int else vi3, bif decide ((rd x0 vi0.toNat 0).int > vi4) then (rd x0 vi0.toNat 0).int else vi4, bif decide ((rd x0 vi0.toNat 1).int > vi5) then (rd x0 vi0.toNat 1).int else vi5, bif decide ((rd x0 vi0.toNat 2).int > vi6) then (rd x0 vi0.toNat 2).int else vi6)) else none else none else none else none else none else none else none else none else none else none else none else none) else some (.inr (vi0, vi1, vi2, vi3, vi4, vi5, vi6))
noncomputable def rends_L0_c : Code := loopC Try.prog 65 0
set_option maxRecDepth 100000 in
theorem rends_L0_ok (x0 : List (List Ct)) : ∀ v, StepOk Try.prog 1 rends_L0_c (rends_L0_S x0) (rends_L0_T x0) v (rends_L0_step x0 v) := fun v => match v with | (vi0, vi1, vi2, vi3, vi4, vi5, vi6) => eng_step (C := (⟨consVec, fun _ _ _ => none, fun f => false, noFacts, fun _ => 4⟩ : Cfg Try.prog)) noFacts_ok (n := 30) (f := 65) rends_L0_rd (fun _ => rfl) (by kernel_rfl)
noncomputable def rends_L0_p (x0 : List (List Ct)) : Bool := (iter (rends_L0_step x0) (x0.length + 1) (1, ((rd x0 (Int.toNat (0 : Int)) 0).int), ((rd x0 (Int.toNat (0 : Int)) 1).int), ((rd x0 (Int.toNat (0 : Int)) 2).int), ((rd x0 (Int.toNat (0 : Int)) 0).int), ((rd x0 (Int.toNat (0 : Int)) 1).int), ((rd x0 (Int.toNat (0 : Int)) 2).int))).isSome
noncomputable def rends_L0_v (x0 : List (List Ct)) : Int × Int × Int × Int × Int × Int × Int := loopRes (rends_L0_step x0) (x0.length + 1) (1, ((rd x0 (Int.toNat (0 : Int)) 0).int), ((rd x0 (Int.toNat (0 : Int)) 1).int), ((rd x0 (Int.toNat (0 : Int)) 2).int), ((rd x0 (Int.toNat (0 : Int)) 0).int), ((rd x0 (Int.toNat (0 : Int)) 1).int), ((rd x0 (Int.toNat (0 : Int)) 2).int))
set_option maxRecDepth 100000 in
noncomputable def rends_L0_lc (x0 : List (List Ct)) : LoopCon Try.prog := loopCon Try.prog 1 rends_L0_c [(1, some 1), (2, some 2), (3, some 3), (4, some 4), (5, some 5), (6, some 6)] (rends_L0_S x0) (rends_L0_T x0) 0 (rends_L0_step x0) (rends_L0_ok x0) (x0.length + 1) (1, ((rd x0 (Int.toNat (0 : Int)) 0).int), ((rd x0 (Int.toNat (0 : Int)) 1).int), ((rd x0 (Int.toNat (0 : Int)) 2).int), ((rd x0 (Int.toNat (0 : Int)) 0).int), ((rd x0 (Int.toNat (0 : Int)) 1).int), ((rd x0 (Int.toNat (0 : Int)) 2).int)) (rends_L0_p x0) rfl (rends_L0_v x0) rfl
def rendsF (l : List (List Ct)) (k : Nat) (a : Int × Int × Int × Int × Int × Int) : Int × Int × Int × Int × Int × Int :=
  (if (rd l (k + 1) 0).int < a.1 then (rd l (k + 1) 0).int else a.1, if (rd l (k + 1) 1).int < a.2.1 then (rd l (k + 1) 1).int else a.2.1, if (rd l (k + 1) 2).int < a.2.2.1 then (rd l (k + 1) 2).int else a.2.2.1,
    if (rd l (k + 1) 0).int > a.2.2.2.1 then (rd l (k + 1) 0).int else a.2.2.2.1, if (rd l (k + 1) 1).int > a.2.2.2.2.1 then (rd l (k + 1) 1).int else a.2.2.2.2.1, if (rd l (k + 1) 2).int > a.2.2.2.2.2 then (rd l (k + 1) 2).int else a.2.2.2.2.2)
def rends0 (l : List (List Ct)) : Int × Int × Int × Int × Int × Int := ((rd l 0 0).int, (rd l 0 1).int, (rd l 0 2).int, (rd l 0 0).int, (rd l 0 1).int, (rd l 0 2).int)
noncomputable def rends_O (v : Int × Int × Int × Int × Int × Int) : Out := ⟨.tup [.agg [.val false (.int .i64 v.1), .val false (.int .i64 v.2.1), .val false (.int .i64 v.2.2.1)], .agg [.val false (.int .i64 v.2.2.2.1), .val false (.int .i64 v.2.2.2.2.1), .val false (.int .i64 v.2.2.2.2.2)]], [], 8, []⟩
noncomputable def rends_rd (out : Out) : Option (Int × Int × Int × Int × Int × Int) := some (rI (rvC out.v 0 0), rI (rvC out.v 0 1), rI (rvC out.v 0 2), rI (rvC out.v 1 0), rI (rvC out.v 1 1), rI (rvC out.v 1 2))
noncomputable def rends_res (x0 : List (List Ct)) : Option (Int × Int × Int × Int × Int × Int) := bif (decide ((0 : Int) ≤ (0 : Int) ∧ (0 : Int) < (↑x0.length : Int))) then bif (decide ((0 : Int) ≤ (0 : Int) ∧ (0 : Int) < (↑x0.length : Int))) then bif (rends_L0_p x0) then some ((rends_L0_v x0).snd.fst, (rends_L0_v x0).snd.snd.fst, (rends_L0_v x0).snd.snd.snd.fst, (rends_L0_v x0).snd.snd.snd.snd.fst, (rends_L0_v x0).snd.snd.snd.snd.snd.fst, (rends_L0_v x0).snd.snd.snd.snd.snd.snd) else none else none else none
set_option maxRecDepth 100000 in
theorem rends_tree {x0 : List (List Ct)} {v : Int × Int × Int × Int × Int × Int} (h : rends_res x0 = some v) : CallOk Try.prog 65 [.sv (.one (.ext 0))] [(0, .grid [.int .i64, .int .i64, .int .i64] x0)] 1 (rends_O v) :=
  eng_tree (C := (⟨consVec, fun f id nx => bif Nat.beq f 65 then (bif Nat.beq id 0 then some (rends_L0_lc x0) else none) else none, fun f => false, noFacts, fun _ => 4⟩ : Cfg Try.prog)) noFacts_ok (n := 30) (f := 65) rends_O rends_rd rfl (by kernel_rfl) h
noncomputable def rends_v (x0 : List (List Ct)) : Int × Int × Int × Int × Int × Int := nfold (rendsF x0) (x0.length - 1) (rends0 x0)
theorem rends_spec (x0 : List (List Ct)) (h : (decide (0 < x0.length ∧ x0.length ≤ 9223372036854775807)) = true) : rends_res x0 = some (rends_v x0) := by
  have h := of_decide_eq_true h
  have := iter_range (step := rends_L0_step x0) (fun k (a : Int × Int × Int × Int × Int × Int) => ((k : Int) + 1, a.1, a.2.1, a.2.2.1, a.2.2.2.1, a.2.2.2.2.1, a.2.2.2.2.2)) (fun _ _ => True) (f := rendsF x0)
    (out := fun a => ((x0.length : Int), a.1, a.2.1, a.2.2.1, a.2.2.2.1, a.2.2.2.2.1, a.2.2.2.2.2)) (n := x0.length - 1) (m := x0.length + 1) (v := (1, (rd x0 0 0).int, (rd x0 0 1).int, (rd x0 0 2).int, (rd x0 0 0).int, (rd x0 0 1).int, (rd x0 0 2).int)) (a0 := rends0 x0) rfl (by omega)
    (fun k hk a _ => ⟨by
      have e1 : ((k : Int) + 1).toNat = k + 1 := by omega
      have e2 : (k : Int) + 1 < x0.length := by omega
      have e3 : (0 : Int) ≤ (k : Int) + 1 := by omega
      simp [rends_L0_step, rendsF, e1, e2, e3, wrap_in (n := (k : Int) + 1 + 1) (by omega) (by omega), Bool.cond_decide], trivial⟩) (fun a _ => by
      have e2 : ((x0.length - 1 : Nat) : Int) + 1 = x0.length := by omega
      simp [rends_L0_step, e2]) trivial
  simp [rends_res, rends_v, rends_L0_p, rends_L0_v, loopRes, this, h.1]
noncomputable def rends_m (args : List RV) (hp : Hp) : Option ((List (List Ct)) × List Nat) := match args with
  | [.sv (.one (.ext i0))] => (match gridAt hp i0 [.int .i64, .int .i64, .int .i64] with
    | some x0 => some (x0, [i0])
    | _ => none)
  | _ => none
noncomputable def rends_con : Con Try.prog := conX Try.prog 65 rends_m 1 (fun x => [.sv (.one (.ext 0))]) (fun x => [(0, .grid [.int .i64, .int .i64, .int .i64] x)]) (fun x => some (decide (0 < x.length ∧ x.length ≤ 9223372036854775807))) (fun x => rends_O (rends_v x))
  (by
    intro args hp x r h
    unfold rends_m at h
    split at h
    · split at h
      · rename_i g0
        cases h
        refine ⟨rfl, fun nx => ⟨rfl, ?_, ?_⟩⟩
        · intro i hi
          simp only [List.mem_cons, List.not_mem_nil, or_false] at hi
          rcases hi with rfl
          · exact ⟨_, List.mem_of_getElem? (i := 0) rfl, .inl (by simp [RV.ids, SV.ids, CV.ids])⟩
        · intro id o0 ho
          have := hlook_mem ho
          simp only [List.mem_cons, Prod.mk.injEq, List.not_mem_nil, or_false] at this
          rcases this with ⟨rfl, rfl⟩
          · exact ⟨_, gridAt_spec g0, rfl⟩
      · cases h
    · cases h)
  (fun x h => ⟨rfl, rfl, rends_tree (rends_spec x (h _ rfl))⟩)
def rowV (l : List (List Ct)) (j : Nat) : List Ct := [.i (rd l j 0).int, .i (rd l j 1).int, .i (rd l j 2).int]
theorem rd_rowV {l : List (List Ct)} {n j : Nat} (h : j < n) : (rd (tab (rowV l) n) j 0).int = (rd l j 0).int ∧ (rd (tab (rowV l) n) j 1).int = (rd l j 1).int ∧ (rd (tab (rowV l) n) j 2).int = (rd l j 2).int := by
  simp [rd_tab h, rowV, Ct.int]
theorem least_le {l : List (List Ct)} {a : Int × Int × Int} : ∀ n, ((nfold (vleastF l) n a).1 ≤ a.1 ∧ (nfold (vleastF l) n a).2.1 ≤ a.2.1 ∧ (nfold (vleastF l) n a).2.2 ≤ a.2.2) ∧
    ∀ j, j < n → (nfold (vleastF l) n a).1 ≤ (rd l j 0).int ∧ (nfold (vleastF l) n a).2.1 ≤ (rd l j 1).int ∧ (nfold (vleastF l) n a).2.2 ≤ (rd l j 2).int := by
  intro n
  induction n with
  | zero => exact ⟨by simp [nfold], fun j hj => by omega⟩
  | succ n ih =>
    obtain ⟨⟨h1, h2, h3⟩, h4⟩ := ih
    simp only [nfold, vleastF]
    refine ⟨⟨by split <;> omega, by split <;> omega, by split <;> omega⟩, fun j hj => ?_⟩
    rcases Nat.lt_or_ge j n with h | h
    · obtain ⟨k1, k2, k3⟩ := h4 j h
      exact ⟨by split <;> omega, by split <;> omega, by split <;> omega⟩
    · obtain rfl : j = n := by omega
      exact ⟨by split <;> omega, by split <;> omega, by split <;> omega⟩
theorem ends_split {l l' : List (List Ct)} (h0 : 0 < l.length) (hl : l'.length = l.length - 1) (hr : ∀ j, j < l.length - 1 → (rd l' j 0).int = (rd l (j + 1) 0).int ∧ (rd l' j 1).int = (rd l (j + 1) 1).int ∧ (rd l' j 2).int = (rd l (j + 1) 2).int) :
    rends_v l = ((vleast_v (rd l 0 0).int (rd l 0 1).int (rd l 0 2).int l').1, (vleast_v (rd l 0 0).int (rd l 0 1).int (rd l 0 2).int l').2.1, (vleast_v (rd l 0 0).int (rd l 0 1).int (rd l 0 2).int l').2.2,
      (vgreat_v (rd l 0 0).int (rd l 0 1).int (rd l 0 2).int l').1, (vgreat_v (rd l 0 0).int (rd l 0 1).int (rd l 0 2).int l').2.1, (vgreat_v (rd l 0 0).int (rd l 0 1).int (rd l 0 2).int l').2.2) := by
  unfold rends_v vleast_v vgreat_v
  rw [hl]
  have key : ∀ m, m ≤ l.length - 1 → nfold (rendsF l) m (rends0 l) = ((nfold (vleastF l') m ((rd l 0 0).int, (rd l 0 1).int, (rd l 0 2).int)).1, (nfold (vleastF l') m ((rd l 0 0).int, (rd l 0 1).int, (rd l 0 2).int)).2.1, (nfold (vleastF l') m ((rd l 0 0).int, (rd l 0 1).int, (rd l 0 2).int)).2.2,
      (nfold (vgreatF l') m ((rd l 0 0).int, (rd l 0 1).int, (rd l 0 2).int)).1, (nfold (vgreatF l') m ((rd l 0 0).int, (rd l 0 1).int, (rd l 0 2).int)).2.1, (nfold (vgreatF l') m ((rd l 0 0).int, (rd l 0 1).int, (rd l 0 2).int)).2.2) := by
    intro m
    induction m with
    | zero => intro _; rfl
    | succ m ih =>
      intro hm
      obtain ⟨k1, k2, k3⟩ := hr m (by omega)
      simp only [nfold, ih (by omega), rendsF, vleastF, vgreatF, k1, k2, k3]
  exact key _ (Nat.le_refl _)
theorem great_ge {l : List (List Ct)} {a : Int × Int × Int} : ∀ n, (a.1 ≤ (nfold (vgreatF l) n a).1 ∧ a.2.1 ≤ (nfold (vgreatF l) n a).2.1 ∧ a.2.2 ≤ (nfold (vgreatF l) n a).2.2) ∧
    ∀ j, j < n → (rd l j 0).int ≤ (nfold (vgreatF l) n a).1 ∧ (rd l j 1).int ≤ (nfold (vgreatF l) n a).2.1 ∧ (rd l j 2).int ≤ (nfold (vgreatF l) n a).2.2 := by
  intro n
  induction n with
  | zero => exact ⟨by simp [nfold], fun j hj => by omega⟩
  | succ n ih =>
    obtain ⟨⟨h1, h2, h3⟩, h4⟩ := ih
    simp only [nfold, vgreatF]
    refine ⟨⟨by split <;> omega, by split <;> omega, by split <;> omega⟩, fun j hj => ?_⟩
    rcases Nat.lt_or_ge j n with h | h
    · obtain ⟨k1, k2, k3⟩ := h4 j h
      exact ⟨by split <;> omega, by split <;> omega, by split <;> omega⟩
    · obtain rfl : j = n := by omega
      exact ⟨by split <;> omega, by split <;> omega, by split <;> omega⟩
noncomputable def consVecList : List (Con Try.prog) := [vleast_con.freeze, vgreat_con.freeze, rends_con.freeze] ++ consVec
end Go.Proofs.Ytpfaejbdbdjhhaa
