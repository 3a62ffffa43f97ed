/- Films and sheets: whether they may be, are the same. No condition. -/
import Derived.Test.YtijidmcblpgfkaaDoorEngFilm2
import Derived.Test.YtijidmcblpgfkaaDoorFilmLaw
set_option linter.unusedVariables false
set_option linter.unusedSimpArgs false
namespace Go.Proofs.YtijidmcblpgfkaaDoor
open Go.RowKit

noncomputable def fright_L0_S (x0_0 : Int) (x0_1 : Int) (x0_2 x0_3 x0_4 x0_5 x0_6 x0_7 : List (List Ct)) (v : Int) : St := ⟨[.sv (.agg [.q x0_0, .q x0_1, .ext 0, .ext 1, .ext 2, .ext 3, .ext 4, .ext 5]), .o (.ptr 6 0), .o (.val true (.bool false)), .o (.q (IntKind.i64.wrap (x0_0 * x0_1))), .d, .o (.ptr 6 0), .sv (.agg [.q x0_0, .q x0_1, .ext 0]), .o (.val false (.bool ((↑x0_2.length : Int) == IntKind.i64.wrap (x0_0 * x0_1)))), .o (.val true (.bool false)), .o (.ptr 6 0), .o (.ptr 6 0), .sv (.agg [.q x0_0, .q x0_1]), .o (.q (IntKind.i64.wrap (x0_0 * x0_1))), .o (.ptr 6 3), .o (.ext 1), .o (.q (↑x0_3.length : Int)), .o (.q (IntKind.i64.wrap (x0_0 * x0_1))), .o (.val false (.bool ((↑x0_3.length : Int) != IntKind.i64.wrap (x0_0 * x0_1)))), .o (.val true (.bool false)), .o (.ptr 6 4), .o (.ext 2), .o (.q (↑x0_4.length : Int)), .o (.q (IntKind.i64.wrap (x0_0 * x0_1))), .o (.val false (.bool ((↑x0_4.length : Int) != IntKind.i64.wrap (x0_0 * x0_1)))), .o (.val false (.bool ((↑x0_4.length : Int) != IntKind.i64.wrap (x0_0 * x0_1)))), .o (.val true (.bool false)), .o (.ptr 6 5), .o (.ext 3), .o (.q (↑x0_5.length : Int)), .o (.q (IntKind.i64.wrap (x0_0 * x0_1))), .o (.val false (.bool ((↑x0_5.length : Int) != IntKind.i64.wrap (x0_0 * x0_1)))), .o (.val false (.bool ((↑x0_5.length : Int) != IntKind.i64.wrap (x0_0 * x0_1)))), .o (.val true (.bool false)), .o (.ptr 6 6), .o (.ext 4), .o (.q (↑x0_6.length : Int)), .o (.q (IntKind.i64.wrap (x0_0 * x0_1))), .o (.val false (.bool ((↑x0_6.length : Int) != IntKind.i64.wrap (x0_0 * x0_1)))), .o (.val false (.bool ((↑x0_6.length : Int) != IntKind.i64.wrap (x0_0 * x0_1)))), .o (.val true (.bool false)), .o (.ptr 6 7), .o (.ext 5), .o (.q (↑x0_7.length : Int)), .o (.q (IntKind.i64.wrap (x0_0 * x0_1))), .o (.val false (.bool ((↑x0_7.length : Int) != IntKind.i64.wrap (x0_0 * x0_1)))), .o (.val true (.bool false)), .o (.q (IntKind.i64.wrap (x0_0 * x0_1))), .o (.q v), .d, .d, .d, .d, .d, .d, .d, .d, .d, .d, .d, .d, .d, .d, .d, .d, .d, .d, .d, .d, .d, .d, .d, .d, .d, .d, .d, .d, .d, .d, .d, .d, .d, .d], [(0, .grid ([Sh.int IntKind.i64, Sh.int IntKind.i64, Sh.int IntKind.i64]) x0_2), (1, .grid ([Sh.int IntKind.i64]) x0_3), (2, .grid ([Sh.int IntKind.i64, Sh.int IntKind.i64, Sh.int IntKind.i64]) x0_4), (3, .grid ([Sh.int IntKind.i64, Sh.int IntKind.i64, Sh.int IntKind.i64]) x0_5), (4, .grid ([Sh.int IntKind.i64]) x0_6), (5, .grid ([Sh.int IntKind.i64]) x0_7), (6, .cells [.q x0_0, .q x0_1, .ext 0, .ext 1, .ext 2, .ext 3, .ext 4, .ext 5] 43)], 21, []⟩
noncomputable def fright_L0_T (x0_0 : Int) (x0_1 : Int) (x0_2 x0_3 x0_4 x0_5 x0_6 x0_7 : List (List Ct)) : (Int) ⊕ (Unit) → Ex × St
  | .inl v => ((.exit 0), ⟨[.sv (.agg [.q x0_0, .q x0_1, .ext 0, .ext 1, .ext 2, .ext 3, .ext 4, .ext 5]), .o (.ptr 6 0), .o (.val true (.bool false)), .o (.q (IntKind.i64.wrap (x0_0 * x0_1))), .d, .o (.ptr 6 0), .sv (.agg [.q x0_0, .q x0_1, .ext 0]), .o (.val false (.bool ((↑x0_2.length : Int) == IntKind.i64.wrap (x0_0 * x0_1)))), .o (.val true (.bool false)), .o (.ptr 6 0), .o (.ptr 6 0), .sv (.agg [.q x0_0, .q x0_1]), .o (.q (IntKind.i64.wrap (x0_0 * x0_1))), .o (.ptr 6 3), .o (.ext 1), .o (.q (↑x0_3.length : Int)), .o (.q (IntKind.i64.wrap (x0_0 * x0_1))), .o (.val false (.bool ((↑x0_3.length : Int) != IntKind.i64.wrap (x0_0 * x0_1)))), .o (.val true (.bool false)), .o (.ptr 6 4), .o (.ext 2), .o (.q (↑x0_4.length : Int)), .o (.q (IntKind.i64.wrap (x0_0 * x0_1))), .o (.val false (.bool ((↑x0_4.length : Int) != IntKind.i64.wrap (x0_0 * x0_1)))), .o (.val false (.bool ((↑x0_4.length : Int) != IntKind.i64.wrap (x0_0 * x0_1)))), .o (.val true (.bool false)), .o (.ptr 6 5), .o (.ext 3), .o (.q (↑x0_5.length : Int)), .o (.q (IntKind.i64.wrap (x0_0 * x0_1))), .o (.val false (.bool ((↑x0_5.length : Int) != IntKind.i64.wrap (x0_0 * x0_1)))), .o (.val false (.bool ((↑x0_5.length : Int) != IntKind.i64.wrap (x0_0 * x0_1)))), .o (.val true (.bool false)), .o (.ptr 6 6), .o (.ext 4), .o (.q (↑x0_6.length : Int)), .o (.q (IntKind.i64.wrap (x0_0 * x0_1))), .o (.val false (.bool ((↑x0_6.length : Int) != IntKind.i64.wrap (x0_0 * x0_1)))), .o (.val false (.bool ((↑x0_6.length : Int) != IntKind.i64.wrap (x0_0 * x0_1)))), .o (.val true (.bool false)), .o (.ptr 6 7), .o (.ext 5), .o (.q (↑x0_7.length : Int)), .o (.q (IntKind.i64.wrap (x0_0 * x0_1))), .o (.val false (.bool ((↑x0_7.length : Int) != IntKind.i64.wrap (x0_0 * x0_1)))), .o (.val true (.bool false)), .o (.q (IntKind.i64.wrap (x0_0 * x0_1))), .o (.q v), .d, .d, .d, .d, .d, .d, .d, .d, .d, .d, .d, .d, .d, .d, .d, .d, .d, .d, .d, .d, .d, .d, .d, .d, .d, .d, .d, .d, .d, .d, .d, .d, .d, .d], [(0, .grid ([Sh.int IntKind.i64, Sh.int IntKind.i64, Sh.int IntKind.i64]) x0_2), (1, .grid ([Sh.int IntKind.i64]) x0_3), (2, .grid ([Sh.int IntKind.i64, Sh.int IntKind.i64, Sh.int IntKind.i64]) x0_4), (3, .grid ([Sh.int IntKind.i64, Sh.int IntKind.i64, Sh.int IntKind.i64]) x0_5), (4, .grid ([Sh.int IntKind.i64]) x0_6), (5, .grid ([Sh.int IntKind.i64]) x0_7), (6, .cells [.q x0_0, .q x0_1, .ext 0, .ext 1, .ext 2, .ext 3, .ext 4, .ext 5] 43)], 22, []⟩)
  | .inr v => (.ret, ⟨[.dead, .dead, .sv (.one (.val true (.bool false))), .dead, .dead, .dead, .dead, .dead, .dead, .dead, .dead, .dead, .dead, .dead, .dead, .dead, .dead, .dead, .dead, .dead, .dead, .dead, .dead, .dead, .dead, .dead, .dead, .dead, .dead, .dead, .dead, .dead, .dead, .dead, .dead, .dead, .dead, .dead, .dead, .dead, .dead, .dead, .dead, .dead, .dead, .dead, .dead, .dead, .dead, .dead, .dead, .dead, .dead, .dead, .dead, .dead, .dead, .dead, .dead, .dead, .dead, .dead, .dead, .dead, .dead, .dead, .dead, .dead, .dead, .dead, .dead, .dead, .dead, .dead, .dead, .dead, .dead, .dead, .dead, .dead, .dead, .dead], [(0, .grid ([Sh.int IntKind.i64, Sh.int IntKind.i64, Sh.int IntKind.i64]) x0_2), (1, .grid ([Sh.int IntKind.i64]) x0_3), (2, .grid ([Sh.int IntKind.i64, Sh.int IntKind.i64, Sh.int IntKind.i64]) x0_4), (3, .grid ([Sh.int IntKind.i64, Sh.int IntKind.i64, Sh.int IntKind.i64]) x0_5), (4, .grid ([Sh.int IntKind.i64]) x0_6), (5, .grid ([Sh.int IntKind.i64]) x0_7)], 30, []⟩)
noncomputable def fright_L0_rd (ex : Ex) (s : St) : Option ((Int) ⊕ ((Int) ⊕ (Unit))) × List (Nat × Option Nat) := match ex with
  | .normal => (some (.inl (rI (frC s 47 0))), [(6, some 6)])
  | .exit i => bif Nat.beq i 0 then (some (.inr (.inl (rI (frC s 47 0)))), [(6, some 6)]) else (none, [])
  | .ret => (some (.inr (.inr ())), [])
noncomputable def fright_L0_step (x0_0 : Int) (x0_1 : Int) (x0_2 x0_3 x0_4 x0_5 x0_6 x0_7 : List (List Ct)) : (Int) → Option ((Int) ⊕ ((Int) ⊕ (Unit))) := fun v => match v with
  | vi0 => bif (decide (vi0 < IntKind.i64.wrap (x0_0 * x0_1))) then (bif (decide ((0 : Int) ≤ vi0 ∧ vi0 < (↑x0_6.length : Int))) then bif (decide ((rd x0_6 vi0.toNat 0).int < (-1 : Int))) then (some (.inr (.inr ()))) else bif (decide ((0 : Int) ≤ vi0 ∧ vi0 < (↑x0_6.length : Int))) then bif (decide ((rd x0_6 vi0.toNat 0).int ≥ (128 : Int))) then (some (.inr (.inr ()))) else bif (decide ((0 : Int) ≤ vi0 ∧ vi0 < (↑x0_7.length : Int))) then bif (decide ((rd x0_7 vi0.toNat 0).int < (-1 : Int))) then (some (.inr (.inr ()))) else bif (decide ((0 : Int) ≤ vi0 ∧ vi0 < (↑x0_7.length : Int))) then bif (decide ((rd x0_7 vi0.toNat 0).int ≥ IntKind.i64.wrap (x0_0 * x0_1))) then (some (.inr (.inr ()))) else some (.inl (IntKind.i64.wrap (vi0 + (1 : Int)))) else none else none else none else none) else some (.inr (.inl vi0))
noncomputable def fright_L0_c : Code := loopC Tryd.prog 20 0
set_option maxRecDepth 100000 in
theorem fright_L0_ok (x0_0 : Int) (x0_1 : Int) (x0_2 x0_3 x0_4 x0_5 x0_6 x0_7 : List (List Ct)) : ∀ v, StepOk Tryd.prog 6 fright_L0_c (fright_L0_S x0_0 x0_1 x0_2 x0_3 x0_4 x0_5 x0_6 x0_7) (fright_L0_T x0_0 x0_1 x0_2 x0_3 x0_4 x0_5 x0_6 x0_7) v (fright_L0_step x0_0 x0_1 x0_2 x0_3 x0_4 x0_5 x0_6 x0_7 v) := fun v => match v with | vi0 => eng_step (C := (⟨consFilm2, fun _ _ _ => none, fun f => false, noFacts, fun _ => 4⟩ : Cfg Tryd.prog)) noFacts_ok (n := 30) (f := 20) fright_L0_rd (fun r => by cases r <;> rfl) (by kernel_rfl)
noncomputable def fright_L0_p (x0_0 : Int) (x0_1 : Int) (x0_2 x0_3 x0_4 x0_5 x0_6 x0_7 : List (List Ct)) : Bool := (iter (fright_L0_step x0_0 x0_1 x0_2 x0_3 x0_4 x0_5 x0_6 x0_7) 4097 0).isSome
noncomputable def fright_L0_v (x0_0 : Int) (x0_1 : Int) (x0_2 x0_3 x0_4 x0_5 x0_6 x0_7 : List (List Ct)) : (Int) ⊕ (Unit) := (iter (fright_L0_step x0_0 x0_1 x0_2 x0_3 x0_4 x0_5 x0_6 x0_7) 4097 0).getD (.inl default)
set_option maxRecDepth 100000 in
noncomputable def fright_L0_lc (x0_0 : Int) (x0_1 : Int) (x0_2 x0_3 x0_4 x0_5 x0_6 x0_7 : List (List Ct)) : LoopCon Tryd.prog := loopCon2 Tryd.prog 6 fright_L0_c [(6, some 6)] (fright_L0_S x0_0 x0_1 x0_2 x0_3 x0_4 x0_5 x0_6 x0_7) (fright_L0_T x0_0 x0_1 x0_2 x0_3 x0_4 x0_5 x0_6 x0_7) 0 (fright_L0_step x0_0 x0_1 x0_2 x0_3 x0_4 x0_5 x0_6 x0_7) (fright_L0_ok x0_0 x0_1 x0_2 x0_3 x0_4 x0_5 x0_6 x0_7) 4097 0 (fright_L0_p x0_0 x0_1 x0_2 x0_3 x0_4 x0_5 x0_6 x0_7) rfl (fright_L0_v x0_0 x0_1 x0_2 x0_3 x0_4 x0_5 x0_6 x0_7) rfl
noncomputable def fright_O (v : Bool) : Out := ⟨.sv (.one (.val false (.bool v))), [], 30, []⟩
noncomputable def fright_rd (out : Out) : Option (Bool) := some (rB (rvC out.v 0 0))
noncomputable def fright_res (x0_0 : Int) (x0_1 : Int) (x0_2 x0_3 x0_4 x0_5 x0_6 x0_7 : List (List Ct)) : Option (Bool) := bif (decide (x0_0 ≥ (1 : Int))) then (bif (decide (x0_0 ≤ (64 : Int))) then (bif (decide (x0_1 ≥ (1 : Int))) then (bif (decide (x0_1 ≤ (64 : Int))) then (bif (!(↑x0_2.length : Int) == IntKind.i64.wrap (x0_0 * x0_1)) then (some false) else bif ((↑x0_3.length : Int) != IntKind.i64.wrap (x0_0 * x0_1)) then (some false) else bif ((↑x0_4.length : Int) != IntKind.i64.wrap (x0_0 * x0_1)) then (some false) else bif ((↑x0_5.length : Int) != IntKind.i64.wrap (x0_0 * x0_1)) then (some false) else bif ((↑x0_6.length : Int) != IntKind.i64.wrap (x0_0 * x0_1)) then (some false) else bif ((↑x0_7.length : Int) != IntKind.i64.wrap (x0_0 * x0_1)) then (some false) else bif (fright_L0_p x0_0 x0_1 x0_2 x0_3 x0_4 x0_5 x0_6 x0_7) then bif (isL (fright_L0_v x0_0 x0_1 x0_2 x0_3 x0_4 x0_5 x0_6 x0_7)) then (some true) else some false else none) else some false) else some false) else some false) else some false
set_option maxRecDepth 100000 in
theorem fright_tree {x0_0 : Int} {x0_1 : Int} {x0_2 x0_3 x0_4 x0_5 x0_6 x0_7 : List (List Ct)} {v : Bool} (h : fright_res x0_0 x0_1 x0_2 x0_3 x0_4 x0_5 x0_6 x0_7 = some v) : CallOk Tryd.prog 20 [.sv (.agg [.val false (.int .i64 x0_0), .val false (.int .i64 x0_1), .ext 0, .ext 1, .ext 2, .ext 3, .ext 4, .ext 5])] [(0, .grid [.int .i64, .int .i64, .int .i64] x0_2), (1, .grid [.int .i64] x0_3), (2, .grid [.int .i64, .int .i64, .int .i64] x0_4), (3, .grid [.int .i64, .int .i64, .int .i64] x0_5), (4, .grid [.int .i64] x0_6), (5, .grid [.int .i64] x0_7)] 6 (fright_O v) :=
  eng_tree (C := (⟨consFilm2, fun f id nx => bif Nat.beq f 20 then (bif Nat.beq id 0 then some (fright_L0_lc x0_0 x0_1 x0_2 x0_3 x0_4 x0_5 x0_6 x0_7) else none) else none, fun f => false, noFacts, fun _ => 4⟩ : Cfg Tryd.prog)) noFacts_ok (n := 30) (f := 20) fright_O fright_rd rfl (by kernel_rfl) h
noncomputable def fright_v (x0_0 : Int) (x0_1 : Int) (x0_2 x0_3 x0_4 x0_5 x0_6 x0_7 : List (List Ct)) : Bool := filmS x0_0 x0_1 x0_2 x0_3 x0_4 x0_5 x0_6 x0_7
theorem fright_spec (x0_0 : Int) (x0_1 : Int) (x0_2 x0_3 x0_4 x0_5 x0_6 x0_7 : List (List Ct)) : fright_res x0_0 x0_1 x0_2 x0_3 x0_4 x0_5 x0_6 x0_7 = some (fright_v x0_0 x0_1 x0_2 x0_3 x0_4 x0_5 x0_6 x0_7) := by
  by_cases hw1 : 1 ≤ x0_0
  case neg => simp [fright_res, fright_v, hw1, filmS_false (fun k => hw1 k.w1 : ¬ FilmOk x0_0 x0_1 x0_2 x0_3 x0_4 x0_5 x0_6 x0_7)]
  by_cases hw2 : x0_0 ≤ 64
  case neg => simp [fright_res, fright_v, hw1, hw2, filmS_false (fun k => hw2 k.w2 : ¬ FilmOk x0_0 x0_1 x0_2 x0_3 x0_4 x0_5 x0_6 x0_7)]
  by_cases hh1 : 1 ≤ x0_1
  case neg => simp [fright_res, fright_v, hw1, hw2, hh1, filmS_false (fun k => hh1 k.h1 : ¬ FilmOk x0_0 x0_1 x0_2 x0_3 x0_4 x0_5 x0_6 x0_7)]
  by_cases hh2 : x0_1 ≤ 64
  case neg => simp [fright_res, fright_v, hw1, hw2, hh1, hh2, filmS_false (fun k => hh2 k.h2 : ¬ FilmOk x0_0 x0_1 x0_2 x0_3 x0_4 x0_5 x0_6 x0_7)]
  obtain ⟨m1, m2⟩ := side_mul hw1 hw2 hh1 hh2
  have hwr : IntKind.i64.wrap (x0_0 * x0_1) = x0_0 * x0_1 := wrap_in (by omega) (by omega)
  by_cases e2 : (x0_2.length : Int) = x0_0 * x0_1
  case neg => simp [fright_res, fright_v, hw1, hw2, hh1, hh2, hwr, bne, beq_eq_false_iff_ne.2 e2, filmS_false (fun k => e2 k.l : ¬ FilmOk x0_0 x0_1 x0_2 x0_3 x0_4 x0_5 x0_6 x0_7)]
  by_cases e3 : (x0_3.length : Int) = x0_0 * x0_1
  case neg => simp [fright_res, fright_v, hw1, hw2, hh1, hh2, hwr, e2, bne, beq_eq_false_iff_ne.2 e3, filmS_false (fun k => e3 k.d : ¬ FilmOk x0_0 x0_1 x0_2 x0_3 x0_4 x0_5 x0_6 x0_7)]
  by_cases e4 : (x0_4.length : Int) = x0_0 * x0_1
  case neg => simp [fright_res, fright_v, hw1, hw2, hh1, hh2, hwr, e2, e3, bne, beq_eq_false_iff_ne.2 e4, filmS_false (fun k => e4 k.n : ¬ FilmOk x0_0 x0_1 x0_2 x0_3 x0_4 x0_5 x0_6 x0_7)]
  by_cases e5 : (x0_5.length : Int) = x0_0 * x0_1
  case neg => simp [fright_res, fright_v, hw1, hw2, hh1, hh2, hwr, e2, e3, e4, bne, beq_eq_false_iff_ne.2 e5, filmS_false (fun k => e5 k.b : ¬ FilmOk x0_0 x0_1 x0_2 x0_3 x0_4 x0_5 x0_6 x0_7)]
  by_cases e6 : (x0_6.length : Int) = x0_0 * x0_1
  case neg => simp [fright_res, fright_v, hw1, hw2, hh1, hh2, hwr, e2, e3, e4, e5, bne, beq_eq_false_iff_ne.2 e6, filmS_false (fun k => e6 k.s : ¬ FilmOk x0_0 x0_1 x0_2 x0_3 x0_4 x0_5 x0_6 x0_7)]
  by_cases e7 : (x0_7.length : Int) = x0_0 * x0_1
  case neg => simp [fright_res, fright_v, hw1, hw2, hh1, hh2, hwr, e2, e3, e4, e5, e6, bne, beq_eq_false_iff_ne.2 e7, filmS_false (fun k => e7 k.f : ¬ FilmOk x0_0 x0_1 x0_2 x0_3 x0_4 x0_5 x0_6 x0_7)]
  have hn : x0_7.length = x0_6.length := by omega
  obtain ⟨r, hr, hi⟩ := iter_chk (step := fright_L0_step x0_0 x0_1 x0_2 x0_3 x0_4 x0_5 x0_6 x0_7) (n := x0_6.length) (m := 4097) (c := fun k => -1 ≤ (rd x0_6 k 0).int ∧ (rd x0_6 k 0).int < 128 ∧ -1 ≤ (rd x0_7 k 0).int ∧ (rd x0_7 k 0).int < x0_0 * x0_1) (fun k hk => by
    have w : IntKind.i64.wrap ((k : Int) + 1) = (k : Int) + 1 := wrap_in (by omega) (by omega)
    have l1 : (k : Int) < x0_0 * x0_1 := by omega
    have l2 : (k : Int) < (x0_6.length : Int) := by omega
    have l3 : (k : Int) < (x0_7.length : Int) := by omega
    have l0 : (0 : Int) ≤ (k : Int) := by omega
    have tn : (k : Int).toNat = k := rfl
    by_cases q1 : (rd x0_6 k 0).int < -1
    · exact ⟨fun h => by omega, fun _ => by simp [fright_L0_step, hwr, l1, l2, l3, hk, q1]⟩
    by_cases q2 : 128 ≤ (rd x0_6 k 0).int
    · exact ⟨fun h => by omega, fun _ => by simp [fright_L0_step, hwr, l1, l2, l3, hk, q1, q2]⟩
    by_cases q3 : (rd x0_7 k 0).int < -1
    · exact ⟨fun h => by omega, fun _ => by simp [fright_L0_step, hwr, l1, l2, l3, hk, hn, q1, q2, q3]⟩
    by_cases q4 : x0_0 * x0_1 ≤ (rd x0_7 k 0).int
    · exact ⟨fun h => by omega, fun _ => by simp [fright_L0_step, hwr, l1, l2, l3, hk, hn, q1, q2, q3, q4]⟩
    · exact ⟨fun _ => by simp [fright_L0_step, hwr, l1, l2, l3, hk, hn, q1, q2, q3, q4, w], fun h => absurd ⟨by omega, by omega, by omega, by omega⟩ h⟩)
    (by have l1 : ¬ (x0_6.length : Int) < x0_0 * x0_1 := by omega
        simp [fright_L0_step, hwr, l1]) (by omega)
  have p : fright_L0_p x0_0 x0_1 x0_2 x0_3 x0_4 x0_5 x0_6 x0_7 = true := by unfold fright_L0_p; rw [hr, Option.isSome_some]
  have v : fright_L0_v x0_0 x0_1 x0_2 x0_3 x0_4 x0_5 x0_6 x0_7 = r := by unfold fright_L0_v; rw [hr, Option.getD_some]
  cases hb : isL r with
  | true =>
    have hf := filmS_true (⟨hw1, hw2, hh1, hh2, e2, e3, e4, e5, e6, e7, hi.1 hb⟩ : FilmOk x0_0 x0_1 x0_2 x0_3 x0_4 x0_5 x0_6 x0_7)
    simp [fright_res, fright_v, hw1, hw2, hh1, hh2, hwr, e2, e3, e4, e5, e6, e7, p, v, hb, hf]
  | false =>
    have nf : ¬ FilmOk x0_0 x0_1 x0_2 x0_3 x0_4 x0_5 x0_6 x0_7 := fun k => by rw [hi.2 k.at'] at hb; cases hb
    have hf := filmS_false nf
    simp [fright_res, fright_v, hw1, hw2, hh1, hh2, hwr, e2, e3, e4, e5, e6, e7, p, v, hb, hf]
noncomputable def fright_m (args : List RV) (hp : Hp) : Option ((Int × Int × List (List Ct) × List (List Ct) × List (List Ct) × List (List Ct) × List (List Ct) × List (List Ct)) × List Nat) := match args with
  | [.sv (.agg [.val _ (.int .i64 x0_0), .val _ (.int .i64 x0_1), .ext i0, .ext i1, .ext i2, .ext i3, .ext i4, .ext i5])] => (match gridAt hp i0 [.int .i64, .int .i64, .int .i64], gridAt hp i1 [.int .i64], gridAt hp i2 [.int .i64, .int .i64, .int .i64], gridAt hp i3 [.int .i64, .int .i64, .int .i64], gridAt hp i4 [.int .i64], gridAt hp i5 [.int .i64] with
    | some x0_2, some x0_3, some x0_4, some x0_5, some x0_6, some x0_7 => some ((x0_0, x0_1, x0_2, x0_3, x0_4, x0_5, x0_6, x0_7), [i0, i1, i2, i3, i4, i5])
    | _, _, _, _, _, _ => none)
  | _ => none
noncomputable def fright_con : Con Tryd.prog := conX Tryd.prog 20 fright_m 6 (fun x => [.sv (.agg [.val false (.int .i64 x.1), .val false (.int .i64 x.2.1), .ext 0, .ext 1, .ext 2, .ext 3, .ext 4, .ext 5])]) (fun x => [(0, .grid [.int .i64, .int .i64, .int .i64] x.2.2.1), (1, .grid [.int .i64] x.2.2.2.1), (2, .grid [.int .i64, .int .i64, .int .i64] x.2.2.2.2.1), (3, .grid [.int .i64, .int .i64, .int .i64] x.2.2.2.2.2.1), (4, .grid [.int .i64] x.2.2.2.2.2.2.1), (5, .grid [.int .i64] x.2.2.2.2.2.2.2)]) (fun x => none) (fun x => fright_O (fright_v x.1 x.2.1 x.2.2.1 x.2.2.2.1 x.2.2.2.2.1 x.2.2.2.2.2.1 x.2.2.2.2.2.2.1 x.2.2.2.2.2.2.2))
  (by
    intro args hp x r h
    unfold fright_m at h
    split at h
    · split at h
      · rename_i g0 g1 g2 g3 g4 g5
        cases h
        refine ⟨rfl, fun nx => ⟨rfl, ?_, ?_⟩⟩
        · intro i hi
          simp only [List.mem_cons, List.not_mem_nil, or_false] at hi
          rcases hi with rfl | rfl | rfl | rfl | rfl | rfl
          · exact ⟨_, List.mem_of_getElem? (i := 0) rfl, .inl (by simp [RV.ids, SV.ids, CV.ids])⟩
          · exact ⟨_, List.mem_of_getElem? (i := 0) rfl, .inl (by simp [RV.ids, SV.ids, CV.ids])⟩
          · exact ⟨_, List.mem_of_getElem? (i := 0) rfl, .inl (by simp [RV.ids, SV.ids, CV.ids])⟩
          · exact ⟨_, List.mem_of_getElem? (i := 0) rfl, .inl (by simp [RV.ids, SV.ids, CV.ids])⟩
          · exact ⟨_, List.mem_of_getElem? (i := 0) rfl, .inl (by simp [RV.ids, SV.ids, CV.ids])⟩
          · exact ⟨_, List.mem_of_getElem? (i := 0) rfl, .inl (by simp [RV.ids, SV.ids, CV.ids])⟩
        · intro id o0 ho
          have := hlook_mem ho
          simp only [List.mem_cons, Prod.mk.injEq, List.not_mem_nil, or_false] at this
          rcases this with ⟨rfl, rfl⟩ | ⟨rfl, rfl⟩ | ⟨rfl, rfl⟩ | ⟨rfl, rfl⟩ | ⟨rfl, rfl⟩ | ⟨rfl, rfl⟩
          · exact ⟨_, gridAt_spec g0, rfl⟩
          · exact ⟨_, gridAt_spec g1, rfl⟩
          · exact ⟨_, gridAt_spec g2, rfl⟩
          · exact ⟨_, gridAt_spec g3, rfl⟩
          · exact ⟨_, gridAt_spec g4, rfl⟩
          · exact ⟨_, gridAt_spec g5, rfl⟩
      · cases h
    · cases h)
  (fun x h => ⟨rfl, rfl, fright_tree (fright_spec x.1 x.2.1 x.2.2.1 x.2.2.2.1 x.2.2.2.2.1 x.2.2.2.2.2.1 x.2.2.2.2.2.2.1 x.2.2.2.2.2.2.2)⟩)

noncomputable def rfright_L0_S (x0_0 : Int) (x0_1 : Int) (x0_2 x0_3 x0_4 x0_5 x0_6 x0_7 : List (List Ct)) (v : Int) : St := ⟨[.sv (.agg [.q x0_0, .q x0_1, .ext 0, .ext 1, .ext 2, .ext 3, .ext 4, .ext 5]), .o (.ptr 6 0), .o (.val true (.bool false)), .o (.q (IntKind.i64.wrap (x0_0 * x0_1))), .o (.q v), .o (.ptr 6 0), .sv (.agg [.q x0_0, .q x0_1, .ext 0]), .o (.val false (.bool ((↑x0_2.length : Int) == IntKind.i64.wrap (x0_0 * x0_1)))), .o (.val true (.bool false)), .o (.ptr 6 0), .o (.ptr 6 0), .o (.q x0_0), .o (.ptr 6 0), .o (.ptr 6 1), .o (.q x0_1), .o (.q (IntKind.i64.wrap (x0_0 * x0_1))), .o (.ptr 6 3), .o (.ext 1), .o (.q (↑x0_3.length : Int)), .o (.q (IntKind.i64.wrap (x0_0 * x0_1))), .o (.val false (.bool ((↑x0_3.length : Int) != IntKind.i64.wrap (x0_0 * x0_1)))), .o (.val true (.bool false)), .o (.ptr 6 4), .o (.ext 2), .o (.q (↑x0_4.length : Int)), .o (.q (IntKind.i64.wrap (x0_0 * x0_1))), .o (.val false (.bool ((↑x0_4.length : Int) != IntKind.i64.wrap (x0_0 * x0_1)))), .o (.val false (.bool ((↑x0_4.length : Int) != IntKind.i64.wrap (x0_0 * x0_1)))), .o (.val true (.bool false)), .o (.ptr 6 5), .o (.ext 3), .o (.q (↑x0_5.length : Int)), .o (.q (IntKind.i64.wrap (x0_0 * x0_1))), .o (.val false (.bool ((↑x0_5.length : Int) != IntKind.i64.wrap (x0_0 * x0_1)))), .o (.val false (.bool ((↑x0_5.length : Int) != IntKind.i64.wrap (x0_0 * x0_1)))), .o (.val true (.bool false)), .o (.ptr 6 6), .o (.ext 4), .o (.q (↑x0_6.length : Int)), .o (.q (IntKind.i64.wrap (x0_0 * x0_1))), .o (.val false (.bool ((↑x0_6.length : Int) != IntKind.i64.wrap (x0_0 * x0_1)))), .o (.val false (.bool ((↑x0_6.length : Int) != IntKind.i64.wrap (x0_0 * x0_1)))), .o (.val true (.bool false)), .o (.ptr 6 7), .o (.ext 5), .o (.q (↑x0_7.length : Int)), .o (.q (IntKind.i64.wrap (x0_0 * x0_1))), .o (.val false (.bool ((↑x0_7.length : Int) != IntKind.i64.wrap (x0_0 * x0_1)))), .o (.val true (.bool false)), .d, .d, .d, .d, .d, .d, .d, .d, .d, .d, .d, .d, .d, .d, .d, .d, .d, .d, .d, .d, .d, .d, .d, .d, .d, .d, .d, .d, .d, .d, .d, .d, .d, .d, .d, .d], [(0, .grid ([Sh.int IntKind.i64, Sh.int IntKind.i64, Sh.int IntKind.i64]) x0_2), (1, .grid ([Sh.int IntKind.i64]) x0_3), (2, .grid ([Sh.int IntKind.i64, Sh.int IntKind.i64, Sh.int IntKind.i64]) x0_4), (3, .grid ([Sh.int IntKind.i64, Sh.int IntKind.i64, Sh.int IntKind.i64]) x0_5), (4, .grid ([Sh.int IntKind.i64]) x0_6), (5, .grid ([Sh.int IntKind.i64]) x0_7), (6, .cells [.q x0_0, .q x0_1, .ext 0, .ext 1, .ext 2, .ext 3, .ext 4, .ext 5] 29)], 18, []⟩
noncomputable def rfright_L0_T (x0_0 : Int) (x0_1 : Int) (x0_2 x0_3 x0_4 x0_5 x0_6 x0_7 : List (List Ct)) : (Int) ⊕ (Unit) → Ex × St
  | .inl v => ((.exit 0), ⟨[.sv (.agg [.q x0_0, .q x0_1, .ext 0, .ext 1, .ext 2, .ext 3, .ext 4, .ext 5]), .o (.ptr 6 0), .o (.val true (.bool false)), .o (.q (IntKind.i64.wrap (x0_0 * x0_1))), .o (.q v), .o (.ptr 6 0), .sv (.agg [.q x0_0, .q x0_1, .ext 0]), .o (.val false (.bool ((↑x0_2.length : Int) == IntKind.i64.wrap (x0_0 * x0_1)))), .o (.val true (.bool false)), .o (.ptr 6 0), .o (.ptr 6 0), .o (.q x0_0), .o (.ptr 6 0), .o (.ptr 6 1), .o (.q x0_1), .o (.q (IntKind.i64.wrap (x0_0 * x0_1))), .o (.ptr 6 3), .o (.ext 1), .o (.q (↑x0_3.length : Int)), .o (.q (IntKind.i64.wrap (x0_0 * x0_1))), .o (.val false (.bool ((↑x0_3.length : Int) != IntKind.i64.wrap (x0_0 * x0_1)))), .o (.val true (.bool false)), .o (.ptr 6 4), .o (.ext 2), .o (.q (↑x0_4.length : Int)), .o (.q (IntKind.i64.wrap (x0_0 * x0_1))), .o (.val false (.bool ((↑x0_4.length : Int) != IntKind.i64.wrap (x0_0 * x0_1)))), .o (.val false (.bool ((↑x0_4.length : Int) != IntKind.i64.wrap (x0_0 * x0_1)))), .o (.val true (.bool false)), .o (.ptr 6 5), .o (.ext 3), .o (.q (↑x0_5.length : Int)), .o (.q (IntKind.i64.wrap (x0_0 * x0_1))), .o (.val false (.bool ((↑x0_5.length : Int) != IntKind.i64.wrap (x0_0 * x0_1)))), .o (.val false (.bool ((↑x0_5.length : Int) != IntKind.i64.wrap (x0_0 * x0_1)))), .o (.val true (.bool false)), .o (.ptr 6 6), .o (.ext 4), .o (.q (↑x0_6.length : Int)), .o (.q (IntKind.i64.wrap (x0_0 * x0_1))), .o (.val false (.bool ((↑x0_6.length : Int) != IntKind.i64.wrap (x0_0 * x0_1)))), .o (.val false (.bool ((↑x0_6.length : Int) != IntKind.i64.wrap (x0_0 * x0_1)))), .o (.val true (.bool false)), .o (.ptr 6 7), .o (.ext 5), .o (.q (↑x0_7.length : Int)), .o (.q (IntKind.i64.wrap (x0_0 * x0_1))), .o (.val false (.bool ((↑x0_7.length : Int) != IntKind.i64.wrap (x0_0 * x0_1)))), .o (.val true (.bool false)), .d, .d, .d, .d, .d, .d, .d, .d, .d, .d, .d, .d, .d, .d, .d, .d, .d, .d, .d, .d, .d, .d, .d, .d, .d, .d, .d, .d, .d, .d, .d, .d, .d, .d, .d, .d], [(0, .grid ([Sh.int IntKind.i64, Sh.int IntKind.i64, Sh.int IntKind.i64]) x0_2), (1, .grid ([Sh.int IntKind.i64]) x0_3), (2, .grid ([Sh.int IntKind.i64, Sh.int IntKind.i64, Sh.int IntKind.i64]) x0_4), (3, .grid ([Sh.int IntKind.i64, Sh.int IntKind.i64, Sh.int IntKind.i64]) x0_5), (4, .grid ([Sh.int IntKind.i64]) x0_6), (5, .grid ([Sh.int IntKind.i64]) x0_7), (6, .cells [.q x0_0, .q x0_1, .ext 0, .ext 1, .ext 2, .ext 3, .ext 4, .ext 5] 29)], 19, []⟩)
  | .inr v => (.ret, ⟨[.dead, .dead, .sv (.one (.val true (.bool false))), .dead, .dead, .dead, .dead, .dead, .dead, .dead, .dead, .dead, .dead, .dead, .dead, .dead, .dead, .dead, .dead, .dead, .dead, .dead, .dead, .dead, .dead, .dead, .dead, .dead, .dead, .dead, .dead, .dead, .dead, .dead, .dead, .dead, .dead, .dead, .dead, .dead, .dead, .dead, .dead, .dead, .dead, .dead, .dead, .dead, .dead, .dead, .dead, .dead, .dead, .dead, .dead, .dead, .dead, .dead, .dead, .dead, .dead, .dead, .dead, .dead, .dead, .dead, .dead, .dead, .dead, .dead, .dead, .dead, .dead, .dead, .dead, .dead, .dead, .dead, .dead, .dead, .dead, .dead, .dead, .dead, .dead], [(0, .grid ([Sh.int IntKind.i64, Sh.int IntKind.i64, Sh.int IntKind.i64]) x0_2), (1, .grid ([Sh.int IntKind.i64]) x0_3), (2, .grid ([Sh.int IntKind.i64, Sh.int IntKind.i64, Sh.int IntKind.i64]) x0_4), (3, .grid ([Sh.int IntKind.i64, Sh.int IntKind.i64, Sh.int IntKind.i64]) x0_5), (4, .grid ([Sh.int IntKind.i64]) x0_6), (5, .grid ([Sh.int IntKind.i64]) x0_7)], 27, []⟩)
noncomputable def rfright_L0_rd (ex : Ex) (s : St) : Option ((Int) ⊕ ((Int) ⊕ (Unit))) × List (Nat × Option Nat) := match ex with
  | .normal => (some (.inl (rI (frC s 4 0))), [(6, some 6)])
  | .exit i => bif Nat.beq i 0 then (some (.inr (.inl (rI (frC s 4 0)))), [(6, some 6)]) else (none, [])
  | .ret => (some (.inr (.inr ())), [])
noncomputable def rfright_L0_step (x0_0 : Int) (x0_1 : Int) (x0_2 x0_3 x0_4 x0_5 x0_6 x0_7 : List (List Ct)) : (Int) → Option ((Int) ⊕ ((Int) ⊕ (Unit))) := fun v => match v with
  | vi0 => bif (decide (vi0 < IntKind.i64.wrap (x0_0 * x0_1))) then (bif (decide ((0 : Int) ≤ vi0 ∧ vi0 < (↑x0_6.length : Int))) then bif (decide ((rd x0_6 vi0.toNat 0).int < (-1 : Int))) then (some (.inr (.inr ()))) else bif (decide ((0 : Int) ≤ vi0 ∧ vi0 < (↑x0_6.length : Int))) then bif (decide ((rd x0_6 vi0.toNat 0).int ≥ (128 : Int))) then (some (.inr (.inr ()))) else bif (decide ((0 : Int) ≤ vi0 ∧ vi0 < (↑x0_7.length : Int))) then bif (decide ((rd x0_7 vi0.toNat 0).int < (-1 : Int))) then (some (.inr (.inr ()))) else bif (decide ((0 : Int) ≤ vi0 ∧ vi0 < (↑x0_7.length : Int))) then bif (decide ((rd x0_7 vi0.toNat 0).int ≥ IntKind.i64.wrap (x0_0 * x0_1))) then (some (.inr (.inr ()))) else some (.inl (IntKind.i64.wrap (vi0 + (1 : Int)))) else none else none else none else none) else some (.inr (.inl vi0))
noncomputable def rfright_L0_c : Code := loopC Tryd.prog 16 0
set_option maxRecDepth 100000 in
theorem rfright_L0_ok (x0_0 : Int) (x0_1 : Int) (x0_2 x0_3 x0_4 x0_5 x0_6 x0_7 : List (List Ct)) : ∀ v, StepOk Tryd.prog 6 rfright_L0_c (rfright_L0_S x0_0 x0_1 x0_2 x0_3 x0_4 x0_5 x0_6 x0_7) (rfright_L0_T x0_0 x0_1 x0_2 x0_3 x0_4 x0_5 x0_6 x0_7) v (rfright_L0_step x0_0 x0_1 x0_2 x0_3 x0_4 x0_5 x0_6 x0_7 v) := fun v => match v with | vi0 => eng_step (C := (⟨consFilm2, fun _ _ _ => none, fun f => false, noFacts, fun _ => 4⟩ : Cfg Tryd.prog)) noFacts_ok (n := 30) (f := 16) rfright_L0_rd (fun r => by cases r <;> rfl) (by kernel_rfl)
noncomputable def rfright_L0_p (x0_0 : Int) (x0_1 : Int) (x0_2 x0_3 x0_4 x0_5 x0_6 x0_7 : List (List Ct)) : Bool := (iter (rfright_L0_step x0_0 x0_1 x0_2 x0_3 x0_4 x0_5 x0_6 x0_7) 4097 0).isSome
noncomputable def rfright_L0_v (x0_0 : Int) (x0_1 : Int) (x0_2 x0_3 x0_4 x0_5 x0_6 x0_7 : List (List Ct)) : (Int) ⊕ (Unit) := (iter (rfright_L0_step x0_0 x0_1 x0_2 x0_3 x0_4 x0_5 x0_6 x0_7) 4097 0).getD (.inl default)
set_option maxRecDepth 100000 in
noncomputable def rfright_L0_lc (x0_0 : Int) (x0_1 : Int) (x0_2 x0_3 x0_4 x0_5 x0_6 x0_7 : List (List Ct)) : LoopCon Tryd.prog := loopCon2 Tryd.prog 6 rfright_L0_c [(6, some 6)] (rfright_L0_S x0_0 x0_1 x0_2 x0_3 x0_4 x0_5 x0_6 x0_7) (rfright_L0_T x0_0 x0_1 x0_2 x0_3 x0_4 x0_5 x0_6 x0_7) 0 (rfright_L0_step x0_0 x0_1 x0_2 x0_3 x0_4 x0_5 x0_6 x0_7) (rfright_L0_ok x0_0 x0_1 x0_2 x0_3 x0_4 x0_5 x0_6 x0_7) 4097 0 (rfright_L0_p x0_0 x0_1 x0_2 x0_3 x0_4 x0_5 x0_6 x0_7) rfl (rfright_L0_v x0_0 x0_1 x0_2 x0_3 x0_4 x0_5 x0_6 x0_7) rfl
noncomputable def rfright_O (v : Bool) : Out := ⟨.sv (.one (.val false (.bool v))), [], 27, []⟩
noncomputable def rfright_rd (out : Out) : Option (Bool) := some (rB (rvC out.v 0 0))
noncomputable def rfright_res (x0_0 : Int) (x0_1 : Int) (x0_2 x0_3 x0_4 x0_5 x0_6 x0_7 : List (List Ct)) : Option (Bool) := bif (decide (x0_0 ≥ (1 : Int))) then (bif (decide (x0_0 ≤ (64 : Int))) then (bif (decide (x0_1 ≥ (1 : Int))) then (bif (decide (x0_1 ≤ (64 : Int))) then (bif (!(↑x0_2.length : Int) == IntKind.i64.wrap (x0_0 * x0_1)) then (some false) else bif ((↑x0_3.length : Int) != IntKind.i64.wrap (x0_0 * x0_1)) then (some false) else bif ((↑x0_4.length : Int) != IntKind.i64.wrap (x0_0 * x0_1)) then (some false) else bif ((↑x0_5.length : Int) != IntKind.i64.wrap (x0_0 * x0_1)) then (some false) else bif ((↑x0_6.length : Int) != IntKind.i64.wrap (x0_0 * x0_1)) then (some false) else bif ((↑x0_7.length : Int) != IntKind.i64.wrap (x0_0 * x0_1)) then (some false) else bif (rfright_L0_p x0_0 x0_1 x0_2 x0_3 x0_4 x0_5 x0_6 x0_7) then bif (isL (rfright_L0_v x0_0 x0_1 x0_2 x0_3 x0_4 x0_5 x0_6 x0_7)) then (some true) else some false else none) else some false) else some false) else some false) else some false
set_option maxRecDepth 100000 in
theorem rfright_tree {x0_0 : Int} {x0_1 : Int} {x0_2 x0_3 x0_4 x0_5 x0_6 x0_7 : List (List Ct)} {v : Bool} (h : rfright_res x0_0 x0_1 x0_2 x0_3 x0_4 x0_5 x0_6 x0_7 = some v) : CallOk Tryd.prog 16 [.sv (.agg [.val false (.int .i64 x0_0), .val false (.int .i64 x0_1), .ext 0, .ext 1, .ext 2, .ext 3, .ext 4, .ext 5])] [(0, .grid [.int .i64, .int .i64, .int .i64] x0_2), (1, .grid [.int .i64] x0_3), (2, .grid [.int .i64, .int .i64, .int .i64] x0_4), (3, .grid [.int .i64, .int .i64, .int .i64] x0_5), (4, .grid [.int .i64] x0_6), (5, .grid [.int .i64] x0_7)] 6 (rfright_O v) :=
  eng_tree (C := (⟨consFilm2, fun f id nx => bif Nat.beq f 16 then (bif Nat.beq id 0 then some (rfright_L0_lc x0_0 x0_1 x0_2 x0_3 x0_4 x0_5 x0_6 x0_7) else none) else none, fun f => false, noFacts, fun _ => 4⟩ : Cfg Tryd.prog)) noFacts_ok (n := 30) (f := 16) rfright_O rfright_rd rfl (by kernel_rfl) h
noncomputable def rfright_v (x0_0 : Int) (x0_1 : Int) (x0_2 x0_3 x0_4 x0_5 x0_6 x0_7 : List (List Ct)) : Bool := filmS x0_0 x0_1 x0_2 x0_3 x0_4 x0_5 x0_6 x0_7
theorem rfright_spec (x0_0 : Int) (x0_1 : Int) (x0_2 x0_3 x0_4 x0_5 x0_6 x0_7 : List (List Ct)) : rfright_res x0_0 x0_1 x0_2 x0_3 x0_4 x0_5 x0_6 x0_7 = some (rfright_v x0_0 x0_1 x0_2 x0_3 x0_4 x0_5 x0_6 x0_7) := by
  by_cases hw1 : 1 ≤ x0_0
  case neg => simp [rfright_res, rfright_v, hw1, filmS_false (fun k => hw1 k.w1 : ¬ FilmOk x0_0 x0_1 x0_2 x0_3 x0_4 x0_5 x0_6 x0_7)]
  by_cases hw2 : x0_0 ≤ 64
  case neg => simp [rfright_res, rfright_v, hw1, hw2, filmS_false (fun k => hw2 k.w2 : ¬ FilmOk x0_0 x0_1 x0_2 x0_3 x0_4 x0_5 x0_6 x0_7)]
  by_cases hh1 : 1 ≤ x0_1
  case neg => simp [rfright_res, rfright_v, hw1, hw2, hh1, filmS_false (fun k => hh1 k.h1 : ¬ FilmOk x0_0 x0_1 x0_2 x0_3 x0_4 x0_5 x0_6 x0_7)]
  by_cases hh2 : x0_1 ≤ 64
  case neg => simp [rfright_res, rfright_v, hw1, hw2, hh1, hh2, filmS_false (fun k => hh2 k.h2 : ¬ FilmOk x0_0 x0_1 x0_2 x0_3 x0_4 x0_5 x0_6 x0_7)]
  obtain ⟨m1, m2⟩ := side_mul hw1 hw2 hh1 hh2
  have hwr : IntKind.i64.wrap (x0_0 * x0_1) = x0_0 * x0_1 := wrap_in (by omega) (by omega)
  by_cases e2 : (x0_2.length : Int) = x0_0 * x0_1
  case neg => simp [rfright_res, rfright_v, hw1, hw2, hh1, hh2, hwr, bne, beq_eq_false_iff_ne.2 e2, filmS_false (fun k => e2 k.l : ¬ FilmOk x0_0 x0_1 x0_2 x0_3 x0_4 x0_5 x0_6 x0_7)]
  by_cases e3 : (x0_3.length : Int) = x0_0 * x0_1
  case neg => simp [rfright_res, rfright_v, hw1, hw2, hh1, hh2, hwr, e2, bne, beq_eq_false_iff_ne.2 e3, filmS_false (fun k => e3 k.d : ¬ FilmOk x0_0 x0_1 x0_2 x0_3 x0_4 x0_5 x0_6 x0_7)]
  by_cases e4 : (x0_4.length : Int) = x0_0 * x0_1
  case neg => simp [rfright_res, rfright_v, hw1, hw2, hh1, hh2, hwr, e2, e3, bne, beq_eq_false_iff_ne.2 e4, filmS_false (fun k => e4 k.n : ¬ FilmOk x0_0 x0_1 x0_2 x0_3 x0_4 x0_5 x0_6 x0_7)]
  by_cases e5 : (x0_5.length : Int) = x0_0 * x0_1
  case neg => simp [rfright_res, rfright_v, hw1, hw2, hh1, hh2, hwr, e2, e3, e4, bne, beq_eq_false_iff_ne.2 e5, filmS_false (fun k => e5 k.b : ¬ FilmOk x0_0 x0_1 x0_2 x0_3 x0_4 x0_5 x0_6 x0_7)]
  by_cases e6 : (x0_6.length : Int) = x0_0 * x0_1
  case neg => simp [rfright_res, rfright_v, hw1, hw2, hh1, hh2, hwr, e2, e3, e4, e5, bne, beq_eq_false_iff_ne.2 e6, filmS_false (fun k => e6 k.s : ¬ FilmOk x0_0 x0_1 x0_2 x0_3 x0_4 x0_5 x0_6 x0_7)]
  by_cases e7 : (x0_7.length : Int) = x0_0 * x0_1
  case neg => simp [rfright_res, rfright_v, hw1, hw2, hh1, hh2, hwr, e2, e3, e4, e5, e6, bne, beq_eq_false_iff_ne.2 e7, filmS_false (fun k => e7 k.f : ¬ FilmOk x0_0 x0_1 x0_2 x0_3 x0_4 x0_5 x0_6 x0_7)]
  have hn : x0_7.length = x0_6.length := by omega
  obtain ⟨r, hr, hi⟩ := iter_chk (step := rfright_L0_step x0_0 x0_1 x0_2 x0_3 x0_4 x0_5 x0_6 x0_7) (n := x0_6.length) (m := 4097) (c := fun k => -1 ≤ (rd x0_6 k 0).int ∧ (rd x0_6 k 0).int < 128 ∧ -1 ≤ (rd x0_7 k 0).int ∧ (rd x0_7 k 0).int < x0_0 * x0_1) (fun k hk => by
    have w : IntKind.i64.wrap ((k : Int) + 1) = (k : Int) + 1 := wrap_in (by omega) (by omega)
    have l1 : (k : Int) < x0_0 * x0_1 := by omega
    have l2 : (k : Int) < (x0_6.length : Int) := by omega
    have l3 : (k : Int) < (x0_7.length : Int) := by omega
    have l0 : (0 : Int) ≤ (k : Int) := by omega
    have tn : (k : Int).toNat = k := rfl
    by_cases q1 : (rd x0_6 k 0).int < -1
    · exact ⟨fun h => by omega, fun _ => by simp [rfright_L0_step, hwr, l1, l2, l3, hk, q1]⟩
    by_cases q2 : 128 ≤ (rd x0_6 k 0).int
    · exact ⟨fun h => by omega, fun _ => by simp [rfright_L0_step, hwr, l1, l2, l3, hk, q1, q2]⟩
    by_cases q3 : (rd x0_7 k 0).int < -1
    · exact ⟨fun h => by omega, fun _ => by simp [rfright_L0_step, hwr, l1, l2, l3, hk, hn, q1, q2, q3]⟩
    by_cases q4 : x0_0 * x0_1 ≤ (rd x0_7 k 0).int
    · exact ⟨fun h => by omega, fun _ => by simp [rfright_L0_step, hwr, l1, l2, l3, hk, hn, q1, q2, q3, q4]⟩
    · exact ⟨fun _ => by simp [rfright_L0_step, hwr, l1, l2, l3, hk, hn, q1, q2, q3, q4, w], fun h => absurd ⟨by omega, by omega, by omega, by omega⟩ h⟩)
    (by have l1 : ¬ (x0_6.length : Int) < x0_0 * x0_1 := by omega
        simp [rfright_L0_step, hwr, l1]) (by omega)
  have p : rfright_L0_p x0_0 x0_1 x0_2 x0_3 x0_4 x0_5 x0_6 x0_7 = true := by unfold rfright_L0_p; rw [hr, Option.isSome_some]
  have v : rfright_L0_v x0_0 x0_1 x0_2 x0_3 x0_4 x0_5 x0_6 x0_7 = r := by unfold rfright_L0_v; rw [hr, Option.getD_some]
  cases hb : isL r with
  | true =>
    have hf := filmS_true (⟨hw1, hw2, hh1, hh2, e2, e3, e4, e5, e6, e7, hi.1 hb⟩ : FilmOk x0_0 x0_1 x0_2 x0_3 x0_4 x0_5 x0_6 x0_7)
    simp [rfright_res, rfright_v, hw1, hw2, hh1, hh2, hwr, e2, e3, e4, e5, e6, e7, p, v, hb, hf]
  | false =>
    have nf : ¬ FilmOk x0_0 x0_1 x0_2 x0_3 x0_4 x0_5 x0_6 x0_7 := fun k => by rw [hi.2 k.at'] at hb; cases hb
    have hf := filmS_false nf
    simp [rfright_res, rfright_v, hw1, hw2, hh1, hh2, hwr, e2, e3, e4, e5, e6, e7, p, v, hb, hf]
noncomputable def rfright_m (args : List RV) (hp : Hp) : Option ((Int × Int × List (List Ct) × List (List Ct) × List (List Ct) × List (List Ct) × List (List Ct) × List (List Ct)) × List Nat) := match args with
  | [.sv (.agg [.val _ (.int .i64 x0_0), .val _ (.int .i64 x0_1), .ext i0, .ext i1, .ext i2, .ext i3, .ext i4, .ext i5])] => (match gridAt hp i0 [.int .i64, .int .i64, .int .i64], gridAt hp i1 [.int .i64], gridAt hp i2 [.int .i64, .int .i64, .int .i64], gridAt hp i3 [.int .i64, .int .i64, .int .i64], gridAt hp i4 [.int .i64], gridAt hp i5 [.int .i64] with
    | some x0_2, some x0_3, some x0_4, some x0_5, some x0_6, some x0_7 => some ((x0_0, x0_1, x0_2, x0_3, x0_4, x0_5, x0_6, x0_7), [i0, i1, i2, i3, i4, i5])
    | _, _, _, _, _, _ => none)
  | _ => none
noncomputable def rfright_con : Con Tryd.prog := conX Tryd.prog 16 rfright_m 6 (fun x => [.sv (.agg [.val false (.int .i64 x.1), .val false (.int .i64 x.2.1), .ext 0, .ext 1, .ext 2, .ext 3, .ext 4, .ext 5])]) (fun x => [(0, .grid [.int .i64, .int .i64, .int .i64] x.2.2.1), (1, .grid [.int .i64] x.2.2.2.1), (2, .grid [.int .i64, .int .i64, .int .i64] x.2.2.2.2.1), (3, .grid [.int .i64, .int .i64, .int .i64] x.2.2.2.2.2.1), (4, .grid [.int .i64] x.2.2.2.2.2.2.1), (5, .grid [.int .i64] x.2.2.2.2.2.2.2)]) (fun x => none) (fun x => rfright_O (rfright_v x.1 x.2.1 x.2.2.1 x.2.2.2.1 x.2.2.2.2.1 x.2.2.2.2.2.1 x.2.2.2.2.2.2.1 x.2.2.2.2.2.2.2))
  (by
    intro args hp x r h
    unfold rfright_m at h
    split at h
    · split at h
      · rename_i g0 g1 g2 g3 g4 g5
        cases h
        refine ⟨rfl, fun nx => ⟨rfl, ?_, ?_⟩⟩
        · intro i hi
          simp only [List.mem_cons, List.not_mem_nil, or_false] at hi
          rcases hi with rfl | rfl | rfl | rfl | rfl | rfl
          · exact ⟨_, List.mem_of_getElem? (i := 0) rfl, .inl (by simp [RV.ids, SV.ids, CV.ids])⟩
          · exact ⟨_, List.mem_of_getElem? (i := 0) rfl, .inl (by simp [RV.ids, SV.ids, CV.ids])⟩
          · exact ⟨_, List.mem_of_getElem? (i := 0) rfl, .inl (by simp [RV.ids, SV.ids, CV.ids])⟩
          · exact ⟨_, List.mem_of_getElem? (i := 0) rfl, .inl (by simp [RV.ids, SV.ids, CV.ids])⟩
          · exact ⟨_, List.mem_of_getElem? (i := 0) rfl, .inl (by simp [RV.ids, SV.ids, CV.ids])⟩
          · exact ⟨_, List.mem_of_getElem? (i := 0) rfl, .inl (by simp [RV.ids, SV.ids, CV.ids])⟩
        · intro id o0 ho
          have := hlook_mem ho
          simp only [List.mem_cons, Prod.mk.injEq, List.not_mem_nil, or_false] at this
          rcases this with ⟨rfl, rfl⟩ | ⟨rfl, rfl⟩ | ⟨rfl, rfl⟩ | ⟨rfl, rfl⟩ | ⟨rfl, rfl⟩ | ⟨rfl, rfl⟩
          · exact ⟨_, gridAt_spec g0, rfl⟩
          · exact ⟨_, gridAt_spec g1, rfl⟩
          · exact ⟨_, gridAt_spec g2, rfl⟩
          · exact ⟨_, gridAt_spec g3, rfl⟩
          · exact ⟨_, gridAt_spec g4, rfl⟩
          · exact ⟨_, gridAt_spec g5, rfl⟩
      · cases h
    · cases h)
  (fun x h => ⟨rfl, rfl, rfright_tree (rfright_spec x.1 x.2.1 x.2.2.1 x.2.2.2.1 x.2.2.2.2.1 x.2.2.2.2.2.1 x.2.2.2.2.2.2.1 x.2.2.2.2.2.2.2)⟩)

noncomputable def ssame_L0_S (x0_0 : Int) (x0_1 : Int) (x0_2 : List (List Ct)) (x1_0 : Int) (x1_1 : Int) (x1_2 : List (List Ct)) (v : Int) : St := ⟨[.sv (.agg [.q x0_0, .q x0_1, .ext 0]), .sv (.agg [.q x1_0, .q x1_1, .ext 1]), .o (.ptr 2 0), .o (.ptr 3 0), .o (.val true (.bool false)), .o (.q v), .o (.ptr 2 0), .o (.q x0_0), .o (.ptr 3 0), .o (.q x1_0), .o (.val false (.bool (x0_0 != x1_0))), .o (.val true (.bool false)), .o (.ptr 2 1), .o (.q x0_1), .o (.ptr 3 1), .o (.q x1_1), .o (.val false (.bool (x0_1 != x1_1))), .o (.val false (.bool (x0_1 != x1_1))), .o (.val true (.bool false)), .o (.ptr 2 2), .o (.ext 0), .o (.q (↑x0_2.length : Int)), .o (.ptr 3 2), .o (.ext 1), .o (.q (↑x1_2.length : Int)), .o (.val false (.bool ((↑x0_2.length : Int) != (↑x1_2.length : Int)))), .o (.val true (.bool false)), .d, .d, .d, .d, .d, .d, .d, .d, .d, .d, .d, .d, .d, .d, .d, .d, .d, .d], [(0, .grid ([Sh.int IntKind.i64, Sh.int IntKind.i64, Sh.int IntKind.i64]) x0_2), (1, .grid ([Sh.int IntKind.i64, Sh.int IntKind.i64, Sh.int IntKind.i64]) x1_2), (2, .cells [.q x0_0, .q x0_1, .ext 0] 24), (3, .cells [.q x1_0, .q x1_1, .ext 1] 24)], 7, []⟩
noncomputable def ssame_L0_T (x0_0 : Int) (x0_1 : Int) (x0_2 : List (List Ct)) (x1_0 : Int) (x1_1 : Int) (x1_2 : List (List Ct)) : (Int) ⊕ (Unit) → Ex × St
  | .inl v => ((.exit 0), ⟨[.sv (.agg [.q x0_0, .q x0_1, .ext 0]), .sv (.agg [.q x1_0, .q x1_1, .ext 1]), .o (.ptr 2 0), .o (.ptr 3 0), .o (.val true (.bool false)), .o (.q v), .o (.ptr 2 0), .o (.q x0_0), .o (.ptr 3 0), .o (.q x1_0), .o (.val false (.bool (x0_0 != x1_0))), .o (.val true (.bool false)), .o (.ptr 2 1), .o (.q x0_1), .o (.ptr 3 1), .o (.q x1_1), .o (.val false (.bool (x0_1 != x1_1))), .o (.val false (.bool (x0_1 != x1_1))), .o (.val true (.bool false)), .o (.ptr 2 2), .o (.ext 0), .o (.q (↑x0_2.length : Int)), .o (.ptr 3 2), .o (.ext 1), .o (.q (↑x1_2.length : Int)), .o (.val false (.bool ((↑x0_2.length : Int) != (↑x1_2.length : Int)))), .o (.val true (.bool false)), .d, .d, .d, .d, .d, .d, .d, .d, .d, .d, .d, .d, .d, .d, .d, .d, .d, .d], [(0, .grid ([Sh.int IntKind.i64, Sh.int IntKind.i64, Sh.int IntKind.i64]) x0_2), (1, .grid ([Sh.int IntKind.i64, Sh.int IntKind.i64, Sh.int IntKind.i64]) x1_2), (2, .cells [.q x0_0, .q x0_1, .ext 0] 24), (3, .cells [.q x1_0, .q x1_1, .ext 1] 24)], 8, []⟩)
  | .inr v => (.ret, ⟨[.dead, .dead, .dead, .dead, .sv (.one (.val true (.bool false))), .dead, .dead, .dead, .dead, .dead, .dead, .dead, .dead, .dead, .dead, .dead, .dead, .dead, .dead, .dead, .dead, .dead, .dead, .dead, .dead, .dead, .dead, .dead, .dead, .dead, .dead, .dead, .dead, .dead, .dead, .dead, .dead, .dead, .dead, .dead, .dead, .dead, .dead, .dead, .dead], [(0, .grid ([Sh.int IntKind.i64, Sh.int IntKind.i64, Sh.int IntKind.i64]) x0_2), (1, .grid ([Sh.int IntKind.i64, Sh.int IntKind.i64, Sh.int IntKind.i64]) x1_2)], 11, []⟩)
noncomputable def ssame_L0_rd (ex : Ex) (s : St) : Option ((Int) ⊕ ((Int) ⊕ (Unit))) × List (Nat × Option Nat) := match ex with
  | .normal => (some (.inl (rI (frC s 5 0))), [(2, some 2), (3, some 3)])
  | .exit i => bif Nat.beq i 0 then (some (.inr (.inl (rI (frC s 5 0)))), [(2, some 2), (3, some 3)]) else (none, [])
  | .ret => (some (.inr (.inr ())), [])
noncomputable def ssame_L0_step (x0_0 : Int) (x0_1 : Int) (x0_2 : List (List Ct)) (x1_0 : Int) (x1_1 : Int) (x1_2 : List (List Ct)) : (Int) → Option ((Int) ⊕ ((Int) ⊕ (Unit))) := fun v => match v with
  | vi0 => bif (decide (vi0 < (↑x0_2.length : Int))) then (bif (decide ((0 : Int) ≤ vi0 ∧ vi0 < (↑x0_2.length : Int))) then bif (decide ((0 : Int) ≤ vi0 ∧ vi0 < (↑x1_2.length : Int))) then bif (!((rd x0_2 vi0.toNat 0).int == (rd x1_2 vi0.toNat 0).int && ((rd x0_2 vi0.toNat 1).int == (rd x1_2 vi0.toNat 1).int && ((rd x0_2 vi0.toNat 2).int == (rd x1_2 vi0.toNat 2).int && true)))) then (some (.inr (.inr ()))) else some (.inl (IntKind.i64.wrap (vi0 + (1 : Int)))) else none else none) else some (.inr (.inl vi0))
noncomputable def ssame_L0_c : Code := loopC Tryd.prog 12 0
set_option maxRecDepth 100000 in
theorem ssame_L0_ok (x0_0 : Int) (x0_1 : Int) (x0_2 : List (List Ct)) (x1_0 : Int) (x1_1 : Int) (x1_2 : List (List Ct)) : ∀ v, StepOk Tryd.prog 2 ssame_L0_c (ssame_L0_S x0_0 x0_1 x0_2 x1_0 x1_1 x1_2) (ssame_L0_T x0_0 x0_1 x0_2 x1_0 x1_1 x1_2) v (ssame_L0_step x0_0 x0_1 x0_2 x1_0 x1_1 x1_2 v) := fun v => match v with | vi0 => eng_step (C := (⟨consFilm2, fun _ _ _ => none, fun f => false, noFacts, fun _ => 4⟩ : Cfg Tryd.prog)) noFacts_ok (n := 30) (f := 12) ssame_L0_rd (fun r => by cases r <;> rfl) (by kernel_rfl)
noncomputable def ssame_L0_p (x0_0 : Int) (x0_1 : Int) (x0_2 : List (List Ct)) (x1_0 : Int) (x1_1 : Int) (x1_2 : List (List Ct)) : Bool := (iter (ssame_L0_step x0_0 x0_1 x0_2 x1_0 x1_1 x1_2) (x0_2.length + 1) 0).isSome
noncomputable def ssame_L0_v (x0_0 : Int) (x0_1 : Int) (x0_2 : List (List Ct)) (x1_0 : Int) (x1_1 : Int) (x1_2 : List (List Ct)) : (Int) ⊕ (Unit) := (iter (ssame_L0_step x0_0 x0_1 x0_2 x1_0 x1_1 x1_2) (x0_2.length + 1) 0).getD (.inl default)
set_option maxRecDepth 100000 in
noncomputable def ssame_L0_lc (x0_0 : Int) (x0_1 : Int) (x0_2 : List (List Ct)) (x1_0 : Int) (x1_1 : Int) (x1_2 : List (List Ct)) : LoopCon Tryd.prog := loopCon2 Tryd.prog 2 ssame_L0_c [(2, some 2), (3, some 3)] (ssame_L0_S x0_0 x0_1 x0_2 x1_0 x1_1 x1_2) (ssame_L0_T x0_0 x0_1 x0_2 x1_0 x1_1 x1_2) 0 (ssame_L0_step x0_0 x0_1 x0_2 x1_0 x1_1 x1_2) (ssame_L0_ok x0_0 x0_1 x0_2 x1_0 x1_1 x1_2) (x0_2.length + 1) 0 (ssame_L0_p x0_0 x0_1 x0_2 x1_0 x1_1 x1_2) rfl (ssame_L0_v x0_0 x0_1 x0_2 x1_0 x1_1 x1_2) rfl
noncomputable def ssame_O (v : Bool) : Out := ⟨.sv (.one (.val false (.bool v))), [], 11, []⟩
noncomputable def ssame_rd (out : Out) : Option (Bool) := some (rB (rvC out.v 0 0))
noncomputable def ssame_res (x0_0 : Int) (x0_1 : Int) (x0_2 : List (List Ct)) (x1_0 : Int) (x1_1 : Int) (x1_2 : List (List Ct)) : Option (Bool) := bif (x0_0 != x1_0) then (some false) else bif (x0_1 != x1_1) then (some false) else bif ((↑x0_2.length : Int) != (↑x1_2.length : Int)) then (some false) else bif (ssame_L0_p x0_0 x0_1 x0_2 x1_0 x1_1 x1_2) then bif (isL (ssame_L0_v x0_0 x0_1 x0_2 x1_0 x1_1 x1_2)) then (some true) else some false else none
set_option maxRecDepth 100000 in
theorem ssame_tree {x0_0 : Int} {x0_1 : Int} {x0_2 : List (List Ct)} {x1_0 : Int} {x1_1 : Int} {x1_2 : List (List Ct)} {v : Bool} (h : ssame_res x0_0 x0_1 x0_2 x1_0 x1_1 x1_2 = some v) : CallOk Tryd.prog 12 [.sv (.agg [.val false (.int .i64 x0_0), .val false (.int .i64 x0_1), .ext 0]), .sv (.agg [.val false (.int .i64 x1_0), .val false (.int .i64 x1_1), .ext 1])] [(0, .grid [.int .i64, .int .i64, .int .i64] x0_2), (1, .grid [.int .i64, .int .i64, .int .i64] x1_2)] 2 (ssame_O v) :=
  eng_tree (C := (⟨consFilm2, fun f id nx => bif Nat.beq f 12 then (bif Nat.beq id 0 then some (ssame_L0_lc x0_0 x0_1 x0_2 x1_0 x1_1 x1_2) else none) else none, fun f => false, noFacts, fun _ => 4⟩ : Cfg Tryd.prog)) noFacts_ok (n := 30) (f := 12) ssame_O ssame_rd rfl (by kernel_rfl) h
noncomputable def ssame_v (x0_0 : Int) (x0_1 : Int) (x0_2 : List (List Ct)) (x1_0 : Int) (x1_1 : Int) (x1_2 : List (List Ct)) : Bool := sheetS x0_0 x0_1 x0_2 x1_0 x1_1 x1_2
theorem ssame_spec (x0_0 : Int) (x0_1 : Int) (x0_2 : List (List Ct)) (x1_0 : Int) (x1_1 : Int) (x1_2 : List (List Ct)) (h : (decide (x0_2.length ≤ 9223372036854775000)) = true) : ssame_res x0_0 x0_1 x0_2 x1_0 x1_1 x1_2 = some (ssame_v x0_0 x0_1 x0_2 x1_0 x1_1 x1_2) := by
  have h := of_decide_eq_true h
  by_cases e0 : x0_0 = x1_0
  case neg => simp [ssame_res, ssame_v, bne, beq_eq_false_iff_ne.2 e0, sheetS_false (fun k => e0 k.w : ¬ SheetEq x0_0 x0_1 x0_2 x1_0 x1_1 x1_2)]
  subst e0
  by_cases e1 : x0_1 = x1_1
  case neg => simp [ssame_res, ssame_v, bne, beq_eq_false_iff_ne.2 e1, sheetS_false (fun k => e1 k.h : ¬ SheetEq x0_0 x0_1 x0_2 x0_0 x1_1 x1_2)]
  subst e1
  by_cases e2 : x0_2.length = x1_2.length
  case neg =>
    have f2 : ((x0_2.length : Int) == (x1_2.length : Int)) = false := beq_eq_false_iff_ne.2 (by omega)
    simp [ssame_res, ssame_v, bne, f2, sheetS_false (fun k => e2 k.l : ¬ SheetEq x0_0 x0_1 x0_2 x0_0 x0_1 x1_2)]
  obtain ⟨r, hr, hi⟩ := iter_chk (step := ssame_L0_step x0_0 x0_1 x0_2 x0_0 x0_1 x1_2) (n := x0_2.length) (m := x0_2.length + 1) (c := fun k => (rd x0_2 k 0).int = (rd x1_2 k 0).int ∧ (rd x0_2 k 1).int = (rd x1_2 k 1).int ∧ (rd x0_2 k 2).int = (rd x1_2 k 2).int) (fun k hk => by
    have w : IntKind.i64.wrap ((k : Int) + 1) = (k : Int) + 1 := wrap_in (by omega) (by omega)
    have l2 : k < x1_2.length := by omega
    by_cases q1 : (rd x0_2 k 0).int = (rd x1_2 k 0).int
    case neg => exact ⟨fun h => absurd h.1 q1, fun _ => by simp [ssame_L0_step, hk, l2, beq_eq_false_iff_ne.2 q1]⟩
    by_cases q2 : (rd x0_2 k 1).int = (rd x1_2 k 1).int
    case neg => exact ⟨fun h => absurd h.2.1 q2, fun _ => by simp [ssame_L0_step, hk, l2, q1, beq_eq_false_iff_ne.2 q2]⟩
    by_cases q3 : (rd x0_2 k 2).int = (rd x1_2 k 2).int
    case neg => exact ⟨fun h => absurd h.2.2 q3, fun _ => by simp [ssame_L0_step, hk, l2, q1, q2, beq_eq_false_iff_ne.2 q3]⟩
    exact ⟨fun _ => by simp [ssame_L0_step, hk, l2, q1, q2, q3, w], fun h => absurd ⟨q1, q2, q3⟩ h⟩) (by simp [ssame_L0_step]) (by omega)
  have p : ssame_L0_p x0_0 x0_1 x0_2 x0_0 x0_1 x1_2 = true := by unfold ssame_L0_p; rw [hr, Option.isSome_some]
  have v : ssame_L0_v x0_0 x0_1 x0_2 x0_0 x0_1 x1_2 = r := by unfold ssame_L0_v; rw [hr, Option.getD_some]
  have e3 : ((x0_2.length : Int) == (x1_2.length : Int)) = true := by simp [e2]
  cases hb : isL r with
  | true =>
    have hf := sheetS_true (⟨rfl, rfl, e2, hi.1 hb⟩ : SheetEq x0_0 x0_1 x0_2 x0_0 x0_1 x1_2)
    simp [ssame_res, ssame_v, bne, e3, p, v, hb, hf]
  | false =>
    have nf : ¬ SheetEq x0_0 x0_1 x0_2 x0_0 x0_1 x1_2 := fun k => by rw [hi.2 k.at'] at hb; cases hb
    have hf := sheetS_false nf
    simp [ssame_res, ssame_v, bne, e3, p, v, hb, hf]
noncomputable def ssame_m (args : List RV) (hp : Hp) : Option ((Int × Int × List (List Ct) × Int × Int × List (List Ct)) × List Nat) := match args with
  | [.sv (.agg [.val _ (.int .i64 x0_0), .val _ (.int .i64 x0_1), .ext i0]), .sv (.agg [.val _ (.int .i64 x1_0), .val _ (.int .i64 x1_1), .ext i1])] => (match gridAt hp i0 [.int .i64, .int .i64, .int .i64], gridAt hp i1 [.int .i64, .int .i64, .int .i64] with
    | some x0_2, some x1_2 => some ((x0_0, x0_1, x0_2, x1_0, x1_1, x1_2), [i0, i1])
    | _, _ => none)
  | _ => none
noncomputable def ssame_con : Con Tryd.prog := conX Tryd.prog 12 ssame_m 2 (fun x => [.sv (.agg [.val false (.int .i64 x.1), .val false (.int .i64 x.2.1), .ext 0]), .sv (.agg [.val false (.int .i64 x.2.2.2.1), .val false (.int .i64 x.2.2.2.2.1), .ext 1])]) (fun x => [(0, .grid [.int .i64, .int .i64, .int .i64] x.2.2.1), (1, .grid [.int .i64, .int .i64, .int .i64] x.2.2.2.2.2)]) (fun x => some (decide (x.2.2.1.length ≤ 9223372036854775000))) (fun x => ssame_O (ssame_v x.1 x.2.1 x.2.2.1 x.2.2.2.1 x.2.2.2.2.1 x.2.2.2.2.2))
  (by
    intro args hp x r h
    unfold ssame_m at h
    split at h
    · split at h
      · rename_i g0 g1
        cases h
        refine ⟨rfl, fun nx => ⟨rfl, ?_, ?_⟩⟩
        · intro i hi
          simp only [List.mem_cons, List.not_mem_nil, or_false] at hi
          rcases hi with rfl | rfl
          · exact ⟨_, List.mem_of_getElem? (i := 0) rfl, .inl (by simp [RV.ids, SV.ids, CV.ids])⟩
          · exact ⟨_, List.mem_of_getElem? (i := 1) rfl, .inl (by simp [RV.ids, SV.ids, CV.ids])⟩
        · intro id o0 ho
          have := hlook_mem ho
          simp only [List.mem_cons, Prod.mk.injEq, List.not_mem_nil, or_false] at this
          rcases this with ⟨rfl, rfl⟩ | ⟨rfl, rfl⟩
          · exact ⟨_, gridAt_spec g0, rfl⟩
          · exact ⟨_, gridAt_spec g1, rfl⟩
      · cases h
    · cases h)
  (fun x h => ⟨rfl, rfl, ssame_tree (ssame_spec x.1 x.2.1 x.2.2.1 x.2.2.2.1 x.2.2.2.2.1 x.2.2.2.2.2 (h _ rfl))⟩)
noncomputable def consFilm3 : List (Con Tryd.prog) := [fright_con.freeze, rfright_con.freeze, ssame_con.freeze] ++ consFilm2
end Go.Proofs.YtijidmcblpgfkaaDoor
