/- Whether two sheets are the same. No condition. -/
import Derived.Test.YtonlllijdbjkaaaEngFilm1
import Derived.Test.YtonlllijdbjkaaaFilmLaw
set_option linter.unusedVariables false
set_option linter.unusedSimpArgs false
namespace Go.Proofs.Ytonlllijdbjkaaa
open Go.RowKit

noncomputable def ssame_L0_S (x0_0 : Int) (x0_1 : Int) (x0_2 : List (List Ct)) (x1_0 : Int) (x1_1 : Int) (x1_2 : List (List Ct)) (v : Int) : St := ⟨[.sv (.agg [.q x0_0, .q x0_1, .ext 0]), .sv (.agg [.q x1_0, .q x1_1, .ext 1]), .o (.ptr 2 0), .o (.ptr 3 0), .o (.val true (.bool false)), .o (.q v), .o (.ptr 2 0), .o (.q x0_0), .o (.ptr 3 0), .o (.q x1_0), .o (.val false (.bool (x0_0 != x1_0))), .o (.val true (.bool false)), .o (.ptr 2 1), .o (.q x0_1), .o (.ptr 3 1), .o (.q x1_1), .o (.val false (.bool (x0_1 != x1_1))), .o (.val false (.bool (x0_1 != x1_1))), .o (.val true (.bool false)), .o (.ptr 2 2), .o (.ext 0), .o (.q (↑x0_2.length : Int)), .o (.ptr 3 2), .o (.ext 1), .o (.q (↑x1_2.length : Int)), .o (.val false (.bool ((↑x0_2.length : Int) != (↑x1_2.length : Int)))), .o (.val true (.bool false)), .d, .d, .d, .d, .d, .d, .d, .d, .d, .d, .d, .d, .d, .d, .d, .d, .d, .d], [(0, .grid ([Sh.int IntKind.i64, Sh.int IntKind.i64, Sh.int IntKind.i64]) x0_2), (1, .grid ([Sh.int IntKind.i64, Sh.int IntKind.i64, Sh.int IntKind.i64]) x1_2), (2, .cells [.q x0_0, .q x0_1, .ext 0] 63), (3, .cells [.q x1_0, .q x1_1, .ext 1] 63)], 7, []⟩
noncomputable def ssame_L0_T (x0_0 : Int) (x0_1 : Int) (x0_2 : List (List Ct)) (x1_0 : Int) (x1_1 : Int) (x1_2 : List (List Ct)) : (Int) ⊕ (Unit) → Ex × St
  | .inl v => ((.exit 0), ⟨[.sv (.agg [.q x0_0, .q x0_1, .ext 0]), .sv (.agg [.q x1_0, .q x1_1, .ext 1]), .o (.ptr 2 0), .o (.ptr 3 0), .o (.val true (.bool false)), .o (.q v), .o (.ptr 2 0), .o (.q x0_0), .o (.ptr 3 0), .o (.q x1_0), .o (.val false (.bool (x0_0 != x1_0))), .o (.val true (.bool false)), .o (.ptr 2 1), .o (.q x0_1), .o (.ptr 3 1), .o (.q x1_1), .o (.val false (.bool (x0_1 != x1_1))), .o (.val false (.bool (x0_1 != x1_1))), .o (.val true (.bool false)), .o (.ptr 2 2), .o (.ext 0), .o (.q (↑x0_2.length : Int)), .o (.ptr 3 2), .o (.ext 1), .o (.q (↑x1_2.length : Int)), .o (.val false (.bool ((↑x0_2.length : Int) != (↑x1_2.length : Int)))), .o (.val true (.bool false)), .d, .d, .d, .d, .d, .d, .d, .d, .d, .d, .d, .d, .d, .d, .d, .d, .d, .d], [(0, .grid ([Sh.int IntKind.i64, Sh.int IntKind.i64, Sh.int IntKind.i64]) x0_2), (1, .grid ([Sh.int IntKind.i64, Sh.int IntKind.i64, Sh.int IntKind.i64]) x1_2), (2, .cells [.q x0_0, .q x0_1, .ext 0] 63), (3, .cells [.q x1_0, .q x1_1, .ext 1] 63)], 8, []⟩)
  | .inr v => (.ret, ⟨[.dead, .dead, .dead, .dead, .sv (.one (.val true (.bool false))), .dead, .dead, .dead, .dead, .dead, .dead, .dead, .dead, .dead, .dead, .dead, .dead, .dead, .dead, .dead, .dead, .dead, .dead, .dead, .dead, .dead, .dead, .dead, .dead, .dead, .dead, .dead, .dead, .dead, .dead, .dead, .dead, .dead, .dead, .dead, .dead, .dead, .dead, .dead, .dead], [(0, .grid ([Sh.int IntKind.i64, Sh.int IntKind.i64, Sh.int IntKind.i64]) x0_2), (1, .grid ([Sh.int IntKind.i64, Sh.int IntKind.i64, Sh.int IntKind.i64]) x1_2)], 11, []⟩)
noncomputable def ssame_L0_rd (ex : Ex) (s : St) : Option ((Int) ⊕ ((Int) ⊕ (Unit))) × List (Nat × Option Nat) := match ex with
  | .normal => (some (.inl (rI (frC s 5 0))), [(2, some 2), (3, some 3)])
  | .exit i => bif Nat.beq i 0 then (some (.inr (.inl (rI (frC s 5 0)))), [(2, some 2), (3, some 3)]) else (none, [])
  | .ret => (some (.inr (.inr ())), [])
noncomputable def ssame_L0_step (x0_0 : Int) (x0_1 : Int) (x0_2 : List (List Ct)) (x1_0 : Int) (x1_1 : Int) (x1_2 : List (List Ct)) : (Int) → Option ((Int) ⊕ ((Int) ⊕ (Unit))) := fun v => match v with
  | vi0 => bif (decide (vi0 < (↑x0_2.length : Int))) then (bif (decide ((0 : Int) ≤ vi0 ∧ vi0 < (↑x0_2.length : Int))) then bif (decide ((0 : Int) ≤ vi0 ∧ vi0 < (↑x1_2.length : Int))) then bif (!((rd x0_2 vi0.toNat 0).int == (rd x1_2 vi0.toNat 0).int && ((rd x0_2 vi0.toNat 1).int == (rd x1_2 vi0.toNat 1).int && ((rd x0_2 vi0.toNat 2).int == (rd x1_2 vi0.toNat 2).int && true)))) then (some (.inr (.inr ()))) else some (.inl (IntKind.i64.wrap (vi0 + (1 : Int)))) else none else none) else some (.inr (.inl vi0))
noncomputable def ssame_L0_c : Code := loopC Try.prog 33 0
set_option maxRecDepth 100000 in
theorem ssame_L0_ok (x0_0 : Int) (x0_1 : Int) (x0_2 : List (List Ct)) (x1_0 : Int) (x1_1 : Int) (x1_2 : List (List Ct)) : ∀ v, StepOk Try.prog 2 ssame_L0_c (ssame_L0_S x0_0 x0_1 x0_2 x1_0 x1_1 x1_2) (ssame_L0_T x0_0 x0_1 x0_2 x1_0 x1_1 x1_2) v (ssame_L0_step x0_0 x0_1 x0_2 x1_0 x1_1 x1_2 v) := fun v => match v with | vi0 => eng_step (C := (⟨consHue, fun _ _ _ => none, fun f => false, noFacts, fun _ => 4⟩ : Cfg Try.prog)) noFacts_ok (n := 30) (f := 33) ssame_L0_rd (fun r => by cases r <;> rfl) (by kernel_rfl)
noncomputable def ssame_L0_p (x0_0 : Int) (x0_1 : Int) (x0_2 : List (List Ct)) (x1_0 : Int) (x1_1 : Int) (x1_2 : List (List Ct)) : Bool := (iter (ssame_L0_step x0_0 x0_1 x0_2 x1_0 x1_1 x1_2) (x0_2.length + 1) 0).isSome
noncomputable def ssame_L0_v (x0_0 : Int) (x0_1 : Int) (x0_2 : List (List Ct)) (x1_0 : Int) (x1_1 : Int) (x1_2 : List (List Ct)) : (Int) ⊕ (Unit) := (iter (ssame_L0_step x0_0 x0_1 x0_2 x1_0 x1_1 x1_2) (x0_2.length + 1) 0).getD (.inl default)
set_option maxRecDepth 100000 in
noncomputable def ssame_L0_lc (x0_0 : Int) (x0_1 : Int) (x0_2 : List (List Ct)) (x1_0 : Int) (x1_1 : Int) (x1_2 : List (List Ct)) : LoopCon Try.prog := loopCon2 Try.prog 2 ssame_L0_c [(2, some 2), (3, some 3)] (ssame_L0_S x0_0 x0_1 x0_2 x1_0 x1_1 x1_2) (ssame_L0_T x0_0 x0_1 x0_2 x1_0 x1_1 x1_2) 0 (ssame_L0_step x0_0 x0_1 x0_2 x1_0 x1_1 x1_2) (ssame_L0_ok x0_0 x0_1 x0_2 x1_0 x1_1 x1_2) (x0_2.length + 1) 0 (ssame_L0_p x0_0 x0_1 x0_2 x1_0 x1_1 x1_2) rfl (ssame_L0_v x0_0 x0_1 x0_2 x1_0 x1_1 x1_2) rfl
noncomputable def ssame_O (v : Bool) : Out := ⟨.sv (.one (.val false (.bool v))), [], 11, []⟩
noncomputable def ssame_rd (out : Out) : Option (Bool) := some (rB (rvC out.v 0 0))
noncomputable def ssame_res (x0_0 : Int) (x0_1 : Int) (x0_2 : List (List Ct)) (x1_0 : Int) (x1_1 : Int) (x1_2 : List (List Ct)) : Option (Bool) := bif (x0_0 != x1_0) then (some false) else bif (x0_1 != x1_1) then (some false) else bif ((↑x0_2.length : Int) != (↑x1_2.length : Int)) then (some false) else bif (ssame_L0_p x0_0 x0_1 x0_2 x1_0 x1_1 x1_2) then bif (isL (ssame_L0_v x0_0 x0_1 x0_2 x1_0 x1_1 x1_2)) then (some true) else some false else none
set_option maxRecDepth 100000 in
theorem ssame_tree {x0_0 : Int} {x0_1 : Int} {x0_2 : List (List Ct)} {x1_0 : Int} {x1_1 : Int} {x1_2 : List (List Ct)} {v : Bool} (h : ssame_res x0_0 x0_1 x0_2 x1_0 x1_1 x1_2 = some v) : CallOk Try.prog 33 [.sv (.agg [.val false (.int .i64 x0_0), .val false (.int .i64 x0_1), .ext 0]), .sv (.agg [.val false (.int .i64 x1_0), .val false (.int .i64 x1_1), .ext 1])] [(0, .grid [.int .i64, .int .i64, .int .i64] x0_2), (1, .grid [.int .i64, .int .i64, .int .i64] x1_2)] 2 (ssame_O v) :=
  eng_tree (C := (⟨consHue, fun f id nx => bif Nat.beq f 33 then (bif Nat.beq id 0 then some (ssame_L0_lc x0_0 x0_1 x0_2 x1_0 x1_1 x1_2) else none) else none, fun f => false, noFacts, fun _ => 4⟩ : Cfg Try.prog)) noFacts_ok (n := 30) (f := 33) ssame_O ssame_rd rfl (by kernel_rfl) h
noncomputable def ssame_v (x0_0 : Int) (x0_1 : Int) (x0_2 : List (List Ct)) (x1_0 : Int) (x1_1 : Int) (x1_2 : List (List Ct)) : Bool := sheetS x0_0 x0_1 x0_2 x1_0 x1_1 x1_2
theorem ssame_spec (x0_0 : Int) (x0_1 : Int) (x0_2 : List (List Ct)) (x1_0 : Int) (x1_1 : Int) (x1_2 : List (List Ct)) (h : (decide (x0_2.length ≤ 9223372036854775000)) = true) : ssame_res x0_0 x0_1 x0_2 x1_0 x1_1 x1_2 = some (ssame_v x0_0 x0_1 x0_2 x1_0 x1_1 x1_2) := by
  have h := of_decide_eq_true h
  by_cases e0 : x0_0 = x1_0
  case neg => simp [ssame_res, ssame_v, bne, beq_eq_false_iff_ne.2 e0, sheetS_false (fun k => e0 k.w : ¬ SheetEq x0_0 x0_1 x0_2 x1_0 x1_1 x1_2)]
  subst e0
  by_cases e1 : x0_1 = x1_1
  case neg => simp [ssame_res, ssame_v, bne, beq_eq_false_iff_ne.2 e1, sheetS_false (fun k => e1 k.h : ¬ SheetEq x0_0 x0_1 x0_2 x0_0 x1_1 x1_2)]
  subst e1
  by_cases e2 : x0_2.length = x1_2.length
  case neg =>
    have f2 : ((x0_2.length : Int) == (x1_2.length : Int)) = false := beq_eq_false_iff_ne.2 (by omega)
    simp [ssame_res, ssame_v, bne, f2, sheetS_false (fun k => e2 k.l : ¬ SheetEq x0_0 x0_1 x0_2 x0_0 x0_1 x1_2)]
  obtain ⟨r, hr, hi⟩ := iter_chk (step := ssame_L0_step x0_0 x0_1 x0_2 x0_0 x0_1 x1_2) (n := x0_2.length) (m := x0_2.length + 1) (c := fun k => (rd x0_2 k 0).int = (rd x1_2 k 0).int ∧ (rd x0_2 k 1).int = (rd x1_2 k 1).int ∧ (rd x0_2 k 2).int = (rd x1_2 k 2).int) (fun k hk => by
    have w : IntKind.i64.wrap ((k : Int) + 1) = (k : Int) + 1 := wrap_in (by omega) (by omega)
    have l2 : k < x1_2.length := by omega
    by_cases q1 : (rd x0_2 k 0).int = (rd x1_2 k 0).int
    case neg => exact ⟨fun h => absurd h.1 q1, fun _ => by simp [ssame_L0_step, hk, l2, beq_eq_false_iff_ne.2 q1]⟩
    by_cases q2 : (rd x0_2 k 1).int = (rd x1_2 k 1).int
    case neg => exact ⟨fun h => absurd h.2.1 q2, fun _ => by simp [ssame_L0_step, hk, l2, q1, beq_eq_false_iff_ne.2 q2]⟩
    by_cases q3 : (rd x0_2 k 2).int = (rd x1_2 k 2).int
    case neg => exact ⟨fun h => absurd h.2.2 q3, fun _ => by simp [ssame_L0_step, hk, l2, q1, q2, beq_eq_false_iff_ne.2 q3]⟩
    exact ⟨fun _ => by simp [ssame_L0_step, hk, l2, q1, q2, q3, w], fun h => absurd ⟨q1, q2, q3⟩ h⟩) (by simp [ssame_L0_step]) (by omega)
  have p : ssame_L0_p x0_0 x0_1 x0_2 x0_0 x0_1 x1_2 = true := by unfold ssame_L0_p; rw [hr, Option.isSome_some]
  have v : ssame_L0_v x0_0 x0_1 x0_2 x0_0 x0_1 x1_2 = r := by unfold ssame_L0_v; rw [hr, Option.getD_some]
  have e3 : ((x0_2.length : Int) == (x1_2.length : Int)) = true := by simp [e2]
  cases hb : isL r with
  | true =>
    have hf := sheetS_true (⟨rfl, rfl, e2, hi.1 hb⟩ : SheetEq x0_0 x0_1 x0_2 x0_0 x0_1 x1_2)
    simp [ssame_res, ssame_v, bne, e3, p, v, hb, hf]
  | false =>
    have nf : ¬ SheetEq x0_0 x0_1 x0_2 x0_0 x0_1 x1_2 := fun k => by rw [hi.2 k.at'] at hb; cases hb
    have hf := sheetS_false nf
    simp [ssame_res, ssame_v, bne, e3, p, v, hb, hf]
noncomputable def ssame_m (args : List RV) (hp : Hp) : Option ((Int × Int × List (List Ct) × Int × Int × List (List Ct)) × List Nat) := match args with
  | [.sv (.agg [.val _ (.int .i64 x0_0), .val _ (.int .i64 x0_1), .ext i0]), .sv (.agg [.val _ (.int .i64 x1_0), .val _ (.int .i64 x1_1), .ext i1])] => (match gridAt hp i0 [.int .i64, .int .i64, .int .i64], gridAt hp i1 [.int .i64, .int .i64, .int .i64] with
    | some x0_2, some x1_2 => some ((x0_0, x0_1, x0_2, x1_0, x1_1, x1_2), [i0, i1])
    | _, _ => none)
  | _ => none
noncomputable def ssame_con : Con Try.prog := conX Try.prog 33 ssame_m 2 (fun x => [.sv (.agg [.val false (.int .i64 x.1), .val false (.int .i64 x.2.1), .ext 0]), .sv (.agg [.val false (.int .i64 x.2.2.2.1), .val false (.int .i64 x.2.2.2.2.1), .ext 1])]) (fun x => [(0, .grid [.int .i64, .int .i64, .int .i64] x.2.2.1), (1, .grid [.int .i64, .int .i64, .int .i64] x.2.2.2.2.2)]) (fun x => some (decide (x.2.2.1.length ≤ 9223372036854775000))) (fun x => ssame_O (ssame_v x.1 x.2.1 x.2.2.1 x.2.2.2.1 x.2.2.2.2.1 x.2.2.2.2.2))
  (by
    intro args hp x r h
    unfold ssame_m at h
    split at h
    · split at h
      · rename_i g0 g1
        cases h
        refine ⟨rfl, fun nx => ⟨rfl, ?_, ?_⟩⟩
        · intro i hi
          simp only [List.mem_cons, List.not_mem_nil, or_false] at hi
          rcases hi with rfl | rfl
          · exact ⟨_, List.mem_of_getElem? (i := 0) rfl, .inl (by simp [RV.ids, SV.ids, CV.ids])⟩
          · exact ⟨_, List.mem_of_getElem? (i := 1) rfl, .inl (by simp [RV.ids, SV.ids, CV.ids])⟩
        · intro id o0 ho
          have := hlook_mem ho
          simp only [List.mem_cons, Prod.mk.injEq, List.not_mem_nil, or_false] at this
          rcases this with ⟨rfl, rfl⟩ | ⟨rfl, rfl⟩
          · exact ⟨_, gridAt_spec g0, rfl⟩
          · exact ⟨_, gridAt_spec g1, rfl⟩
      · cases h
    · cases h)
  (fun x h => ⟨rfl, rfl, ssame_tree (ssame_spec x.1 x.2.1 x.2.2.1 x.2.2.2.1 x.2.2.2.2.1 x.2.2.2.2.2 (h _ rfl))⟩)
end Go.Proofs.Ytonlllijdbjkaaa
