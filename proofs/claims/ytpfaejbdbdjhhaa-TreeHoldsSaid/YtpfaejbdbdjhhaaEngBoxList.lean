/- What the functions of layer 11 on lists of boxes compute. No condition. -/
import Derived.Test.YtpfaejbdbdjhhaaEngVecList
set_option linter.unusedVariables false
set_option linter.unusedSimpArgs false
namespace Go.Proofs.Ytpfaejbdbdjhhaa
open Go.RowKit

noncomputable def vjoin_L0_S (x0_0 x0_1 x0_2 x0_3 x0_4 x0_5 : Int) (x1 : List (List Ct)) (v : Int × Int × Int × Int × Int × Int × Int) : St := ⟨[.sv (.agg [.q x0_0, .q x0_1, .q x0_2, .q x0_3, .q x0_4, .q x0_5]), .o (.ext 0), .o (.ptr 1 0), .d, .o (.ptr 2 0), .d, .d, .o (.ext 0), .o (.q (↑x1.length : Int)), .o (.q v.1), .d, .d, .d, .d, .d, .d, .d, .d, .d, .d, .d, .d, .d, .d, .d, .d, .d, .d], [(0, .grid ([Sh.int IntKind.i64, Sh.int IntKind.i64, Sh.int IntKind.i64, Sh.int IntKind.i64, Sh.int IntKind.i64, Sh.int IntKind.i64]) x1), (1, .cells [.q v.2.1, .q v.2.2.1, .q v.2.2.2.1, .q v.2.2.2.2.1, .q v.2.2.2.2.2.1, .q v.2.2.2.2.2.2] 41), (2, .cells [.val true (.int .i64 0), .val true (.int .i64 0), .val true (.int .i64 0), .val true (.int .i64 0), .val true (.int .i64 0), .val true (.int .i64 0)] 41)], 3, []⟩
noncomputable def vjoin_L0_T (x0_0 x0_1 x0_2 x0_3 x0_4 x0_5 : Int) (x1 : List (List Ct)) (v : Int × Int × Int × Int × Int × Int × Int) : Ex × St := ((.exit 0), ⟨(vjoin_L0_S x0_0 x0_1 x0_2 x0_3 x0_4 x0_5 x1 v).fr, (vjoin_L0_S x0_0 x0_1 x0_2 x0_3 x0_4 x0_5 x1 v).hp, 4, []⟩)
noncomputable def vjoin_L0_rd (ex : Ex) (s : St) : Option ((Int × Int × Int × Int × Int × Int × Int) ⊕ (Int × Int × Int × Int × Int × Int × Int)) × List (Nat × Option Nat) := match ex with
  | .normal => (some (.inl (rI (frC s 9 0), rI (hpC s 1 0), rI (hpC s 1 1), rI (hpC s 1 2), rI (hpC s 1 3), rI (hpC s 1 4), rI (hpC s 1 5))), [(1, some 1), (2, some 2)])
  | .exit i => bif Nat.beq i 0 then (some (.inr (rI (frC s 9 0), rI (hpC s 1 0), rI (hpC s 1 1), rI (hpC s 1 2), rI (hpC s 1 3), rI (hpC s 1 4), rI (hpC s 1 5))), [(1, some 1), (2, some 2)]) else (none, [])
  | _ => (none, [])
noncomputable def vjoin_L0_step (x0_0 x0_1 x0_2 x0_3 x0_4 x0_5 : Int) (x1 : List (List Ct)) : (Int × Int × Int × Int × Int × Int × Int) → Option ((Int × Int × Int × Int × Int × Int × Int) ⊕ (Int × Int × Int × Int × Int × Int × Int)) := fun v => match v with
  | (vi0, vi1, vi2, vi3, vi4, vi5, vi6) => bif (decide (vi0 < (↑x1.length : Int))) then (bif (decide ((0 : Int) ≤ vi0 ∧ vi0 < (↑x1.length : Int))) then some (.inl (IntKind.i64.wrap (vi0 + (1 : Int)), if (rd x1 vi0.toNat 0).int < vi1 then (rd x1 vi0.toNat 0).int else vi1, if (rd x1 vi0.toNat 1).int < vi2 then (rd x1 vi0.toNat 1).int else vi2, if (rd x1 vi0.toNat 2).int < vi3 then (rd x1 vi0.toNat 2).int else vi3, if (rd x1 vi0.toNat 3).int > vi4 then (rd x1 vi0.toNat 3).int else vi4, if (rd x1 vi0.toNat 4).int > vi5 then (rd x1 vi0.toNat 4).int else vi5, if (rd x1 vi0.toNat 5).int > vi6 then (rd x1 vi0.toNat 5).int else vi6)) else none) else some (.inr (vi0, vi1, vi2, vi3, vi4, vi5, vi6))
noncomputable def vjoin_L0_c : Code := loopC Try.prog 22 0
set_option maxRecDepth 100000 in
theorem vjoin_L0_ok (x0_0 x0_1 x0_2 x0_3 x0_4 x0_5 : Int) (x1 : List (List Ct)) : ∀ v, StepOk Try.prog 1 vjoin_L0_c (vjoin_L0_S x0_0 x0_1 x0_2 x0_3 x0_4 x0_5 x1) (vjoin_L0_T x0_0 x0_1 x0_2 x0_3 x0_4 x0_5 x1) v (vjoin_L0_step x0_0 x0_1 x0_2 x0_3 x0_4 x0_5 x1 v) := fun v => match v with | (vi0, vi1, vi2, vi3, vi4, vi5, vi6) => eng_step (C := (⟨consVecList, fun _ _ _ => none, fun f => false, noFacts, fun _ => 4⟩ : Cfg Try.prog)) noFacts_ok (n := 30) (f := 22) vjoin_L0_rd (fun _ => rfl) (by kernel_rfl)
noncomputable def vjoin_L0_p (x0_0 x0_1 x0_2 x0_3 x0_4 x0_5 : Int) (x1 : List (List Ct)) : Bool := (iter (vjoin_L0_step x0_0 x0_1 x0_2 x0_3 x0_4 x0_5 x1) (x1.length + 1) (0, x0_0, x0_1, x0_2, x0_3, x0_4, x0_5)).isSome
noncomputable def vjoin_L0_v (x0_0 x0_1 x0_2 x0_3 x0_4 x0_5 : Int) (x1 : List (List Ct)) : Int × Int × Int × Int × Int × Int × Int := loopRes (vjoin_L0_step x0_0 x0_1 x0_2 x0_3 x0_4 x0_5 x1) (x1.length + 1) (0, x0_0, x0_1, x0_2, x0_3, x0_4, x0_5)
set_option maxRecDepth 100000 in
noncomputable def vjoin_L0_lc (x0_0 x0_1 x0_2 x0_3 x0_4 x0_5 : Int) (x1 : List (List Ct)) : LoopCon Try.prog := loopCon Try.prog 1 vjoin_L0_c [(1, some 1), (2, some 2)] (vjoin_L0_S x0_0 x0_1 x0_2 x0_3 x0_4 x0_5 x1) (vjoin_L0_T x0_0 x0_1 x0_2 x0_3 x0_4 x0_5 x1) 0 (vjoin_L0_step x0_0 x0_1 x0_2 x0_3 x0_4 x0_5 x1) (vjoin_L0_ok x0_0 x0_1 x0_2 x0_3 x0_4 x0_5 x1) (x1.length + 1) (0, x0_0, x0_1, x0_2, x0_3, x0_4, x0_5) (vjoin_L0_p x0_0 x0_1 x0_2 x0_3 x0_4 x0_5 x1) rfl (vjoin_L0_v x0_0 x0_1 x0_2 x0_3 x0_4 x0_5 x1) rfl
noncomputable def vjoin_L0_F (x0_0 x0_1 x0_2 x0_3 x0_4 x0_5 : Int) (x1 : List (List Ct)) (k : Nat) (a : Int × Int × Int × Int × Int × Int) : Int × Int × Int × Int × Int × Int := (if (rd x1 k 0).int < a.1 then (rd x1 k 0).int else a.1, if (rd x1 k 1).int < a.2.1 then (rd x1 k 1).int else a.2.1, if (rd x1 k 2).int < a.2.2.1 then (rd x1 k 2).int else a.2.2.1, if (rd x1 k 3).int > a.2.2.2.1 then (rd x1 k 3).int else a.2.2.2.1, if (rd x1 k 4).int > a.2.2.2.2.1 then (rd x1 k 4).int else a.2.2.2.2.1, if (rd x1 k 5).int > a.2.2.2.2.2 then (rd x1 k 5).int else a.2.2.2.2.2)
theorem vjoin_L0_done (x0_0 x0_1 x0_2 x0_3 x0_4 x0_5 : Int) (x1 : List (List Ct)) (hn : x1.length ≤ 9223372036854775000)  : vjoin_L0_p x0_0 x0_1 x0_2 x0_3 x0_4 x0_5 x1 = true ∧ vjoin_L0_v x0_0 x0_1 x0_2 x0_3 x0_4 x0_5 x1 = (fun (a : Int × Int × Int × Int × Int × Int) => (((x1.length : Nat) : Int), a.1, a.2.1, a.2.2.1, a.2.2.2.1, a.2.2.2.2.1, a.2.2.2.2.2)) (nfold (vjoin_L0_F x0_0 x0_1 x0_2 x0_3 x0_4 x0_5 x1) (x1.length) (x0_0, x0_1, x0_2, x0_3, x0_4, x0_5)) := by
  have := iter_range (step := vjoin_L0_step x0_0 x0_1 x0_2 x0_3 x0_4 x0_5 x1) (A := Int × Int × Int × Int × Int × Int) (fun (k : Nat) (a : Int × Int × Int × Int × Int × Int) => ((k : Int), a.1, a.2.1, a.2.2.1, a.2.2.2.1, a.2.2.2.2.1, a.2.2.2.2.2)) (fun _ _ => True) (f := vjoin_L0_F x0_0 x0_1 x0_2 x0_3 x0_4 x0_5 x1) (out := fun (a : Int × Int × Int × Int × Int × Int) => (((x1.length : Nat) : Int), a.1, a.2.1, a.2.2.1, a.2.2.2.1, a.2.2.2.2.1, a.2.2.2.2.2)) (n := x1.length) (m := x1.length + 1) (v := (0, x0_0, x0_1, x0_2, x0_3, x0_4, x0_5)) (a0 := (x0_0, x0_1, x0_2, x0_3, x0_4, x0_5)) rfl (by omega)
    (fun k hk a hi => ⟨by
      simp [vjoin_L0_step, vjoin_L0_F, hk, wrap_in (n := (k : Int) + 1) (by omega) (by omega)], trivial⟩)
    (fun a hi => by
      simp [vjoin_L0_step]) trivial
  exact ⟨by unfold vjoin_L0_p; rw [this, Option.isSome_some], by unfold vjoin_L0_v loopRes; rw [this, Option.getD_some]⟩
noncomputable def vjoin_O (v : Int × Int × Int × Int × Int × Int) : Out := ⟨.sv (.agg [.val false (.int .i64 v.1), .val false (.int .i64 v.2.1), .val false (.int .i64 v.2.2.1), .val false (.int .i64 v.2.2.2.1), .val false (.int .i64 v.2.2.2.2.1), .val false (.int .i64 v.2.2.2.2.2)]), [], 4, []⟩
noncomputable def vjoin_rd (out : Out) : Option (Int × Int × Int × Int × Int × Int) := some (rI (rvC out.v 0 0), rI (rvC out.v 0 1), rI (rvC out.v 0 2), rI (rvC out.v 0 3), rI (rvC out.v 0 4), rI (rvC out.v 0 5))
noncomputable def vjoin_res (x0_0 x0_1 x0_2 x0_3 x0_4 x0_5 : Int) (x1 : List (List Ct)) : Option (Int × Int × Int × Int × Int × Int) := bif (vjoin_L0_p x0_0 x0_1 x0_2 x0_3 x0_4 x0_5 x1) then some ((vjoin_L0_v x0_0 x0_1 x0_2 x0_3 x0_4 x0_5 x1).snd.fst, (vjoin_L0_v x0_0 x0_1 x0_2 x0_3 x0_4 x0_5 x1).snd.snd.fst, (vjoin_L0_v x0_0 x0_1 x0_2 x0_3 x0_4 x0_5 x1).snd.snd.snd.fst, (vjoin_L0_v x0_0 x0_1 x0_2 x0_3 x0_4 x0_5 x1).snd.snd.snd.snd.fst, (vjoin_L0_v x0_0 x0_1 x0_2 x0_3 x0_4 x0_5 x1).snd.snd.snd.snd.snd.fst, (vjoin_L0_v x0_0 x0_1 x0_2 x0_3 x0_4 x0_5 x1).snd.snd.snd.snd.snd.snd) else none
set_option maxRecDepth 100000 in
theorem vjoin_tree {x0_0 x0_1 x0_2 x0_3 x0_4 x0_5 : Int} {x1 : List (List Ct)} {v : Int × Int × Int × Int × Int × Int} (h : vjoin_res x0_0 x0_1 x0_2 x0_3 x0_4 x0_5 x1 = some v) : CallOk Try.prog 22 [.sv (.agg [.val false (.int .i64 x0_0), .val false (.int .i64 x0_1), .val false (.int .i64 x0_2), .val false (.int .i64 x0_3), .val false (.int .i64 x0_4), .val false (.int .i64 x0_5)]), .sv (.one (.ext 0))] [(0, .grid [.int .i64, .int .i64, .int .i64, .int .i64, .int .i64, .int .i64] x1)] 1 (vjoin_O v) :=
  eng_tree (C := (⟨consVecList, fun f id nx => bif Nat.beq f 22 then (bif Nat.beq id 0 then some (vjoin_L0_lc x0_0 x0_1 x0_2 x0_3 x0_4 x0_5 x1) else none) else none, fun f => false, noFacts, fun _ => 4⟩ : Cfg Try.prog)) noFacts_ok (n := 30) (f := 22) vjoin_O vjoin_rd rfl (by kernel_rfl) h
noncomputable def vjoin_v (x0_0 x0_1 x0_2 x0_3 x0_4 x0_5 : Int) (x1 : List (List Ct)) : Int × Int × Int × Int × Int × Int := nfold (vjoin_L0_F x0_0 x0_1 x0_2 x0_3 x0_4 x0_5 x1) x1.length (x0_0, x0_1, x0_2, x0_3, x0_4, x0_5)
theorem vjoin_spec (x0_0 x0_1 x0_2 x0_3 x0_4 x0_5 : Int) (x1 : List (List Ct)) (h : (decide (x1.length ≤ 9223372036854775000)) = true) : vjoin_res x0_0 x0_1 x0_2 x0_3 x0_4 x0_5 x1 = some (vjoin_v x0_0 x0_1 x0_2 x0_3 x0_4 x0_5 x1) := by
  have h := of_decide_eq_true h
  obtain ⟨h1, h2⟩ := vjoin_L0_done x0_0 x0_1 x0_2 x0_3 x0_4 x0_5 x1 h
  simp only [vjoin_res, vjoin_v, h1, h2, cond_true]
noncomputable def vjoin_m (args : List RV) (hp : Hp) : Option ((Int × Int × Int × Int × Int × Int × List (List Ct)) × List Nat) := match args with
  | [.sv (.agg [.val _ (.int .i64 x0_0), .val _ (.int .i64 x0_1), .val _ (.int .i64 x0_2), .val _ (.int .i64 x0_3), .val _ (.int .i64 x0_4), .val _ (.int .i64 x0_5)]), .sv (.one (.ext i0))] => (match gridAt hp i0 [.int .i64, .int .i64, .int .i64, .int .i64, .int .i64, .int .i64] with
    | some x1 => some ((x0_0, x0_1, x0_2, x0_3, x0_4, x0_5, x1), [i0])
    | _ => none)
  | _ => none
noncomputable def vjoin_con : Con Try.prog := conX Try.prog 22 vjoin_m 1 (fun x => [.sv (.agg [.val false (.int .i64 x.1), .val false (.int .i64 x.2.1), .val false (.int .i64 x.2.2.1), .val false (.int .i64 x.2.2.2.1), .val false (.int .i64 x.2.2.2.2.1), .val false (.int .i64 x.2.2.2.2.2.1)]), .sv (.one (.ext 0))]) (fun x => [(0, .grid [.int .i64, .int .i64, .int .i64, .int .i64, .int .i64, .int .i64] x.2.2.2.2.2.2)]) (fun x => some (decide (x.2.2.2.2.2.2.length ≤ 9223372036854775000))) (fun x => vjoin_O (vjoin_v x.1 x.2.1 x.2.2.1 x.2.2.2.1 x.2.2.2.2.1 x.2.2.2.2.2.1 x.2.2.2.2.2.2))
  (by
    intro args hp x r h
    unfold vjoin_m at h
    split at h
    · split at h
      · rename_i g0
        cases h
        refine ⟨rfl, fun nx => ⟨rfl, ?_, ?_⟩⟩
        · intro i hi
          simp only [List.mem_cons, List.not_mem_nil, or_false] at hi
          rcases hi with rfl
          · exact ⟨_, List.mem_of_getElem? (i := 1) rfl, .inl (by simp [RV.ids, SV.ids, CV.ids])⟩
        · intro id o0 ho
          have := hlook_mem ho
          simp only [List.mem_cons, Prod.mk.injEq, List.not_mem_nil, or_false] at this
          rcases this with ⟨rfl, rfl⟩
          · exact ⟨_, gridAt_spec g0, rfl⟩
      · cases h
    · cases h)
  (fun x h => ⟨rfl, rfl, vjoin_tree (vjoin_spec x.1 x.2.1 x.2.2.1 x.2.2.2.1 x.2.2.2.2.1 x.2.2.2.2.2.1 x.2.2.2.2.2.2 (h _ rfl))⟩)

noncomputable def rjoin_L0_S (x0 : List (List Ct)) (v : Int × Int × Int × Int × Int × Int × Int) : St := ⟨[.o (.ext 0), .d, .o (.ptr 1 0), .o (.ptr 3 0), .o (.q v.1), .d, .o (.ext 0), .o (.eptr 2 0), .sv (.agg [.q ((rd x0 (Int.toNat (0 : Int)) 0).int), .q ((rd x0 (Int.toNat (0 : Int)) 1).int), .q ((rd x0 (Int.toNat (0 : Int)) 2).int), .q ((rd x0 (Int.toNat (0 : Int)) 3).int), .q ((rd x0 (Int.toNat (0 : Int)) 4).int), .q ((rd x0 (Int.toNat (0 : Int)) 5).int)]), .d, .d, .d, .d, .d, .d, .d, .d, .d, .d, .d, .d, .d, .d, .d, .d, .d, .d, .d, .d, .d, .d, .d, .d, .d, .d, .d, .d, .d, .d, .d, .d, .d, .d, .d, .d, .d, .d, .d, .d, .d, .d, .d, .d, .d, .d, .d, .d, .d, .d, .d, .d, .d, .d, .d], [(0, .grid ([Sh.int IntKind.i64, Sh.int IntKind.i64, Sh.int IntKind.i64, Sh.int IntKind.i64, Sh.int IntKind.i64, Sh.int IntKind.i64]) x0), (1, .cells [.val true (.int .i64 0), .val true (.int .i64 0), .val true (.int .i64 0), .val true (.int .i64 0), .val true (.int .i64 0), .val true (.int .i64 0)] 49), (2, .elem 0 0 6), (3, .cells [.q v.2.1, .q v.2.2.1, .q v.2.2.2.1, .q v.2.2.2.2.1, .q v.2.2.2.2.2.1, .q v.2.2.2.2.2.2] 49)], 4, []⟩
noncomputable def rjoin_L0_T (x0 : List (List Ct)) (v : Int × Int × Int × Int × Int × Int × Int) : Ex × St := ((.exit 0), ⟨(rjoin_L0_S x0 v).fr, (rjoin_L0_S x0 v).hp, 5, []⟩)
noncomputable def rjoin_L0_rd (ex : Ex) (s : St) : Option ((Int × Int × Int × Int × Int × Int × Int) ⊕ (Int × Int × Int × Int × Int × Int × Int)) × List (Nat × Option Nat) := match ex with
  | .normal => (some (.inl (rI (frC s 4 0), rI (hpC s 3 0), rI (hpC s 3 1), rI (hpC s 3 2), rI (hpC s 3 3), rI (hpC s 3 4), rI (hpC s 3 5))), [(1, some 1), (2, some 2), (3, some 3)])
  | .exit i => bif Nat.beq i 0 then (some (.inr (rI (frC s 4 0), rI (hpC s 3 0), rI (hpC s 3 1), rI (hpC s 3 2), rI (hpC s 3 3), rI (hpC s 3 4), rI (hpC s 3 5))), [(1, some 1), (2, some 2), (3, some 3)]) else (none, [])
  | _ => (none, [])
noncomputable def rjoin_L0_step (x0 : List (List Ct)) : (Int × Int × Int × Int × Int × Int × Int) → Option ((Int × Int × Int × Int × Int × Int × Int) ⊕ (Int × Int × Int × Int × Int × Int × Int)) := fun v => match v with
  | (vi0, vi1, vi2, vi3, vi4, vi5, vi6) => bif (decide (vi0 < (↑x0.length : Int))) then (bif (decide ((0 : Int) ≤ vi0 ∧ vi0 < (↑x0.length : Int))) then bif (bif decide ((rd x0 vi0.toNat 0).int < vi1) then decide ((0 : Int) ≤ vi0 ∧ vi0 < (↑x0.length : Int)) else true) then bif (decide ((0 : Int) ≤ vi0 ∧ vi0 < (↑x0.length : Int))) then bif (bif decide ((rd x0 vi0.toNat 3).int > vi4) then decide ((0 : Int) ≤ vi0 ∧ vi0 < (↑x0.length : Int)) else true) then bif (decide ((0 : Int) ≤ vi0 ∧ vi0 < (↑x0.length : Int))) then bif (bif decide ((rd x0 vi0.toNat 1).int < vi2) then decide ((0 : Int) ≤ vi0 ∧ vi0 < (↑x0.length : Int)) else true) then bif (decide ((0 : Int) ≤ vi0 ∧ vi0 < (↑x0.length : Int))) then bif (bif decide ((rd x0 vi0.toNat 4).int > vi5) then decide ((0 : Int) ≤ vi0 ∧ vi0 < (↑x0.length : Int)) else true) then bif (decide ((0 : Int) ≤ vi0 ∧ vi0 < (↑x0.length : Int))) then bif (bif decide ((rd x0 vi0.toNat 2).int < vi3) then decide ((0 : Int) ≤ vi0 ∧ vi0 < (↑x0.length : Int)) else true) then bif (decide ((0 : Int) ≤ vi0 ∧ vi0 < (↑x0.length : Int))) then bif (bif decide ((rd x0 vi0.toNat 5).int > vi6) then decide ((0 : Int) ≤ vi0 ∧ vi0 < (↑x0.length : Int)) else true) then some (.inl (IntKind.i64.wrap (vi0 + (1 : Int)), bif decide ((rd x0 vi0.toNat 0).int < vi1) then (rd x0 vi0.toNat 0).int else vi1, bif decide ((rd x0 vi0.toNat 1).int < vi2) then (rd x0 vi0.toNat 1).int else vi2, bif decide ((rd x0 vi0.toNat 2).int < vi3) then (rd x0 vi0.toNat 2).int else vi3, bif decide ((rd x0 vi0.toNat 3).int > vi4) then (rd x0 vi0.toNat 3).int else vi4, bif decide ((rd x0 vi0.toNat 4).int > vi5) then (rd x0 vi0.toNat 4).int else vi5, bif decide ((rd x0 vi0.toNat 5).int > vi6) then (rd x0 vi0.toNat 5).int else vi6)) else none else none else none else none else none else none else none else none else none else none else none else none) else some (.inr (vi0, vi1, vi2, vi3, vi4, vi5, vi6))
noncomputable def rjoin_L0_c : Code := loopC Try.prog 63 0
set_option maxRecDepth 100000 in
theorem rjoin_L0_ok (x0 : List (List Ct)) : ∀ v, StepOk Try.prog 1 rjoin_L0_c (rjoin_L0_S x0) (rjoin_L0_T x0) v (rjoin_L0_step x0 v) := fun v => match v with | (vi0, vi1, vi2, vi3, vi4, vi5, vi6) => eng_step (C := (⟨consVecList, fun _ _ _ => none, fun f => false, noFacts, fun _ => 4⟩ : Cfg Try.prog)) noFacts_ok (n := 30) (f := 63) rjoin_L0_rd (fun _ => rfl) (by kernel_rfl)
noncomputable def rjoin_L0_p (x0 : List (List Ct)) : Bool := (iter (rjoin_L0_step x0) (x0.length + 1) (1, ((rd x0 (Int.toNat (0 : Int)) 0).int), ((rd x0 (Int.toNat (0 : Int)) 1).int), ((rd x0 (Int.toNat (0 : Int)) 2).int), ((rd x0 (Int.toNat (0 : Int)) 3).int), ((rd x0 (Int.toNat (0 : Int)) 4).int), ((rd x0 (Int.toNat (0 : Int)) 5).int))).isSome
noncomputable def rjoin_L0_v (x0 : List (List Ct)) : Int × Int × Int × Int × Int × Int × Int := loopRes (rjoin_L0_step x0) (x0.length + 1) (1, ((rd x0 (Int.toNat (0 : Int)) 0).int), ((rd x0 (Int.toNat (0 : Int)) 1).int), ((rd x0 (Int.toNat (0 : Int)) 2).int), ((rd x0 (Int.toNat (0 : Int)) 3).int), ((rd x0 (Int.toNat (0 : Int)) 4).int), ((rd x0 (Int.toNat (0 : Int)) 5).int))
set_option maxRecDepth 100000 in
noncomputable def rjoin_L0_lc (x0 : List (List Ct)) : LoopCon Try.prog := loopCon Try.prog 1 rjoin_L0_c [(1, some 1), (2, some 2), (3, some 3)] (rjoin_L0_S x0) (rjoin_L0_T x0) 0 (rjoin_L0_step x0) (rjoin_L0_ok x0) (x0.length + 1) (1, ((rd x0 (Int.toNat (0 : Int)) 0).int), ((rd x0 (Int.toNat (0 : Int)) 1).int), ((rd x0 (Int.toNat (0 : Int)) 2).int), ((rd x0 (Int.toNat (0 : Int)) 3).int), ((rd x0 (Int.toNat (0 : Int)) 4).int), ((rd x0 (Int.toNat (0 : Int)) 5).int)) (rjoin_L0_p x0) rfl (rjoin_L0_v x0) rfl
noncomputable def rjoin_L0_F (x0 : List (List Ct)) (k : Nat) (a : Int × Int × Int × Int × Int × Int) : Int × Int × Int × Int × Int × Int := (bif decide ((rd x0 (k + 1) 0).int < a.1) then (rd x0 (k + 1) 0).int else a.1, bif decide ((rd x0 (k + 1) 1).int < a.2.1) then (rd x0 (k + 1) 1).int else a.2.1, bif decide ((rd x0 (k + 1) 2).int < a.2.2.1) then (rd x0 (k + 1) 2).int else a.2.2.1, bif decide ((rd x0 (k + 1) 3).int > a.2.2.2.1) then (rd x0 (k + 1) 3).int else a.2.2.2.1, bif decide ((rd x0 (k + 1) 4).int > a.2.2.2.2.1) then (rd x0 (k + 1) 4).int else a.2.2.2.2.1, bif decide ((rd x0 (k + 1) 5).int > a.2.2.2.2.2) then (rd x0 (k + 1) 5).int else a.2.2.2.2.2)
theorem rjoin_L0_done (x0 : List (List Ct)) (hn : (x0.length - 1) ≤ 9223372036854775000) (h0 : 0 < x0.length) : rjoin_L0_p x0 = true ∧ rjoin_L0_v x0 = (fun (a : Int × Int × Int × Int × Int × Int) => (((((x0.length - 1) : Nat) : Int) + 1), a.1, a.2.1, a.2.2.1, a.2.2.2.1, a.2.2.2.2.1, a.2.2.2.2.2)) (nfold (rjoin_L0_F x0) ((x0.length - 1)) (((rd x0 (Int.toNat (0 : Int)) 0).int), ((rd x0 (Int.toNat (0 : Int)) 1).int), ((rd x0 (Int.toNat (0 : Int)) 2).int), ((rd x0 (Int.toNat (0 : Int)) 3).int), ((rd x0 (Int.toNat (0 : Int)) 4).int), ((rd x0 (Int.toNat (0 : Int)) 5).int))) := by
  have := iter_range (step := rjoin_L0_step x0) (A := Int × Int × Int × Int × Int × Int) (fun (k : Nat) (a : Int × Int × Int × Int × Int × Int) => (((k : Int) + 1), a.1, a.2.1, a.2.2.1, a.2.2.2.1, a.2.2.2.2.1, a.2.2.2.2.2)) (fun _ _ => True) (f := rjoin_L0_F x0) (out := fun (a : Int × Int × Int × Int × Int × Int) => (((((x0.length - 1) : Nat) : Int) + 1), a.1, a.2.1, a.2.2.1, a.2.2.2.1, a.2.2.2.2.1, a.2.2.2.2.2)) (n := (x0.length - 1)) (m := x0.length + 1) (v := (1, ((rd x0 (Int.toNat (0 : Int)) 0).int), ((rd x0 (Int.toNat (0 : Int)) 1).int), ((rd x0 (Int.toNat (0 : Int)) 2).int), ((rd x0 (Int.toNat (0 : Int)) 3).int), ((rd x0 (Int.toNat (0 : Int)) 4).int), ((rd x0 (Int.toNat (0 : Int)) 5).int))) (a0 := (((rd x0 (Int.toNat (0 : Int)) 0).int), ((rd x0 (Int.toNat (0 : Int)) 1).int), ((rd x0 (Int.toNat (0 : Int)) 2).int), ((rd x0 (Int.toNat (0 : Int)) 3).int), ((rd x0 (Int.toNat (0 : Int)) 4).int), ((rd x0 (Int.toNat (0 : Int)) 5).int))) rfl (by omega)
    (fun k hk a hi => ⟨by
      have e1 : ((k : Int) + 1).toNat = k + 1 := by omega
      have e2 : (k : Int) + 1 < x0.length := by omega
      have e3 : (0 : Int) ≤ (k : Int) + 1 := by omega
      simp [rjoin_L0_step, rjoin_L0_F, hk, wrap_in (n := (k : Int) + 1) (by omega) (by omega), e1, e2, e3, wrap_in (n := (k : Int) + 1 + 1) (by omega) (by omega)], trivial⟩)
    (fun a hi => by
      have e2 : ((x0.length - 1 : Nat) : Int) + 1 = x0.length := by omega
      simp [rjoin_L0_step, e2]) trivial
  exact ⟨by unfold rjoin_L0_p; rw [this, Option.isSome_some], by unfold rjoin_L0_v loopRes; rw [this, Option.getD_some]⟩
noncomputable def rjoin_O (v : Int × Int × Int × Int × Int × Int) : Out := ⟨.sv (.agg [.val false (.int .i64 v.1), .val false (.int .i64 v.2.1), .val false (.int .i64 v.2.2.1), .val false (.int .i64 v.2.2.2.1), .val false (.int .i64 v.2.2.2.2.1), .val false (.int .i64 v.2.2.2.2.2)]), [], 5, []⟩
noncomputable def rjoin_rd (out : Out) : Option (Int × Int × Int × Int × Int × Int) := some (rI (rvC out.v 0 0), rI (rvC out.v 0 1), rI (rvC out.v 0 2), rI (rvC out.v 0 3), rI (rvC out.v 0 4), rI (rvC out.v 0 5))
noncomputable def rjoin_res (x0 : List (List Ct)) : Option (Int × Int × Int × Int × Int × Int) := bif (decide ((0 : Int) ≤ (0 : Int) ∧ (0 : Int) < (↑x0.length : Int))) then bif (rjoin_L0_p x0) then some ((rjoin_L0_v x0).snd.fst, (rjoin_L0_v x0).snd.snd.fst, (rjoin_L0_v x0).snd.snd.snd.fst, (rjoin_L0_v x0).snd.snd.snd.snd.fst, (rjoin_L0_v x0).snd.snd.snd.snd.snd.fst, (rjoin_L0_v x0).snd.snd.snd.snd.snd.snd) else none else none
set_option maxRecDepth 100000 in
theorem rjoin_tree {x0 : List (List Ct)} {v : Int × Int × Int × Int × Int × Int} (h : rjoin_res x0 = some v) : CallOk Try.prog 63 [.sv (.one (.ext 0))] [(0, .grid [.int .i64, .int .i64, .int .i64, .int .i64, .int .i64, .int .i64] x0)] 1 (rjoin_O v) :=
  eng_tree (C := (⟨consVecList, fun f id nx => bif Nat.beq f 63 then (bif Nat.beq id 0 then some (rjoin_L0_lc x0) else none) else none, fun f => false, noFacts, fun _ => 4⟩ : Cfg Try.prog)) noFacts_ok (n := 30) (f := 63) rjoin_O rjoin_rd rfl (by kernel_rfl) h
noncomputable def rjoin_v (x0 : List (List Ct)) : Int × Int × Int × Int × Int × Int := nfold (rjoin_L0_F x0) ((x0.length - 1)) (((rd x0 (Int.toNat (0 : Int)) 0).int), ((rd x0 (Int.toNat (0 : Int)) 1).int), ((rd x0 (Int.toNat (0 : Int)) 2).int), ((rd x0 (Int.toNat (0 : Int)) 3).int), ((rd x0 (Int.toNat (0 : Int)) 4).int), ((rd x0 (Int.toNat (0 : Int)) 5).int))
theorem rjoin_spec (x0 : List (List Ct)) (h : (decide (0 < x0.length ∧ x0.length ≤ 9223372036854775000)) = true) : rjoin_res x0 = some (rjoin_v x0) := by
  have h := of_decide_eq_true h
  obtain ⟨h1, h2⟩ := rjoin_L0_done x0 (by omega) h.1
  have e : decide ((0 : Int) ≤ (0 : Int) ∧ (0 : Int) < ↑x0.length) = true := by simp; omega
  simp only [rjoin_res, rjoin_v, h1, h2, e, cond_true]
noncomputable def rjoin_m (args : List RV) (hp : Hp) : Option ((List (List Ct)) × List Nat) := match args with
  | [.sv (.one (.ext i0))] => (match gridAt hp i0 [.int .i64, .int .i64, .int .i64, .int .i64, .int .i64, .int .i64] with
    | some x0 => some (x0, [i0])
    | _ => none)
  | _ => none
noncomputable def rjoin_con : Con Try.prog := conX Try.prog 63 rjoin_m 1 (fun x => [.sv (.one (.ext 0))]) (fun x => [(0, .grid [.int .i64, .int .i64, .int .i64, .int .i64, .int .i64, .int .i64] x)]) (fun x => some (decide (0 < x.length ∧ x.length ≤ 9223372036854775000))) (fun x => rjoin_O (rjoin_v x))
  (by
    intro args hp x r h
    unfold rjoin_m at h
    split at h
    · split at h
      · rename_i g0
        cases h
        refine ⟨rfl, fun nx => ⟨rfl, ?_, ?_⟩⟩
        · intro i hi
          simp only [List.mem_cons, List.not_mem_nil, or_false] at hi
          rcases hi with rfl
          · exact ⟨_, List.mem_of_getElem? (i := 0) rfl, .inl (by simp [RV.ids, SV.ids, CV.ids])⟩
        · intro id o0 ho
          have := hlook_mem ho
          simp only [List.mem_cons, Prod.mk.injEq, List.not_mem_nil, or_false] at this
          rcases this with ⟨rfl, rfl⟩
          · exact ⟨_, gridAt_spec g0, rfl⟩
      · cases h
    · cases h)
  (fun x h => ⟨rfl, rfl, rjoin_tree (rjoin_spec x (h _ rfl))⟩)
theorem join_split {l l' : List (List Ct)} (h0 : 0 < l.length) (hl : l'.length = l.length - 1) (hr : ∀ j c, j < l.length - 1 → (rd l' j c) = (rd l (j + 1) c)) : rjoin_v l = vjoin_v (rd l 0 0).int (rd l 0 1).int (rd l 0 2).int (rd l 0 3).int (rd l 0 4).int (rd l 0 5).int l' := by
  unfold rjoin_v vjoin_v
  rw [hl]
  refine nfold_congr (fun k hk a => ?_) _
  simp only [rjoin_L0_F, vjoin_L0_F, hr k _ hk, Bool.cond_decide]
noncomputable def consBoxList : List (Con Try.prog) := [vjoin_con.freeze, rjoin_con.freeze] ++ consVecList
end Go.Proofs.Ytpfaejbdbdjhhaa
