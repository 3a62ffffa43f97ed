/- Steps, done to a sheet. No condition. -/
import Derived.Test.YtonlllijdbjkaaaEngGs3
import Derived.Test.YtonlllijdbjkaaaFilmLaw
set_option linter.unusedVariables false
set_option linter.unusedSimpArgs false
namespace Go.Proofs.Ytonlllijdbjkaaa
open Go.RowKit

/-- A sheet that may be. -/
noncomputable def shr (w h : Int) (n : Nat) : Bool := decide (1 ≤ w ∧ w ≤ 64 ∧ 1 ≤ h ∧ h ≤ 64 ∧ (n : Int) = w * h)
noncomputable def gdo_L0_S (x0_0 : Int) (x0_1 : Int) (x0_2 : List (List Ct)) (x1_0 : List (List Ct)) (v : Int × List (List Ct)) : St := ⟨[.sv (.agg [.q x0_0, .q x0_1, .ext 0]), .o (CV.fn 55 [(1, 0)]), .o (.ptr 3 0), .d, .o (.ptr 4 0), .o (.val true (.int .i64 0)), .o (.ptr 14 0), .d, .d, .sv (.agg [.q (bif !bif bif decide (x0_0 ≥ (1 : Int)) then bif decide (x0_0 ≤ (64 : Int)) then bif decide (x0_1 ≥ (1 : Int)) then decide (x0_1 ≤ (64 : Int)) else false else false else false then (↑x0_2.length : Int) == IntKind.i64.wrap (x0_0 * x0_1) else false then x0_0 else x0_0), .q (bif !bif bif decide (x0_0 ≥ (1 : Int)) then bif decide (x0_0 ≤ (64 : Int)) then bif decide (x0_1 ≥ (1 : Int)) then decide (x0_1 ≤ (64 : Int)) else false else false else false then (↑x0_2.length : Int) == IntKind.i64.wrap (x0_0 * x0_1) else false then x0_1 else x0_1), .ext 0]), .o (.val false (.bool (bif !bif bif decide (x0_0 ≥ (1 : Int)) then bif decide (x0_0 ≤ (64 : Int)) then bif decide (x0_1 ≥ (1 : Int)) then decide (x0_1 ≤ (64 : Int)) else false else false else false then (↑x0_2.length : Int) == IntKind.i64.wrap (x0_0 * x0_1) else false then bif bif decide (x0_0 ≥ (1 : Int)) then bif decide (x0_0 ≤ (64 : Int)) then bif decide (x0_1 ≥ (1 : Int)) then decide (x0_1 ≤ (64 : Int)) else false else false else false then (↑x0_2.length : Int) == IntKind.i64.wrap (x0_0 * x0_1) else false else bif bif decide (x0_0 ≥ (1 : Int)) then bif decide (x0_0 ≤ (64 : Int)) then bif decide (x0_1 ≥ (1 : Int)) then decide (x0_1 ≤ (64 : Int)) else false else false else false then (↑x0_2.length : Int) == IntKind.i64.wrap (x0_0 * x0_1) else false))), .o (.val false (.bool (bif !bif bif decide (x0_0 ≥ (1 : Int)) then bif decide (x0_0 ≤ (64 : Int)) then bif decide (x0_1 ≥ (1 : Int)) then decide (x0_1 ≤ (64 : Int)) else false else false else false then (↑x0_2.length : Int) == IntKind.i64.wrap (x0_0 * x0_1) else false then !bif bif decide (x0_0 ≥ (1 : Int)) then bif decide (x0_0 ≤ (64 : Int)) then bif decide (x0_1 ≥ (1 : Int)) then decide (x0_1 ≤ (64 : Int)) else false else false else false then (↑x0_2.length : Int) == IntKind.i64.wrap (x0_0 * x0_1) else false else !bif bif decide (x0_0 ≥ (1 : Int)) then bif decide (x0_0 ≤ (64 : Int)) then bif decide (x0_1 ≥ (1 : Int)) then decide (x0_1 ≤ (64 : Int)) else false else false else false then (↑x0_2.length : Int) == IntKind.i64.wrap (x0_0 * x0_1) else false))), .o (.val false (.bool (bif !bif bif decide (x0_0 ≥ (1 : Int)) then bif decide (x0_0 ≤ (64 : Int)) then bif decide (x0_1 ≥ (1 : Int)) then decide (x0_1 ≤ (64 : Int)) else false else false else false then (↑x0_2.length : Int) == IntKind.i64.wrap (x0_0 * x0_1) else false then true else false))), .d, .d, .o (.val true (.bool false)), .d, .o (.ptr 3 0), .sv (.agg [.q x0_0, .q x0_1]), .sv (.agg [.q x0_0, .q x0_1, .val true (Value.slice none 0 0)]), .o (.ptr 3 2), .o (.ext 0), .o (.q (↑x0_2.length : Int)), .o (.q v.1), .d, .d, .d, .d, .d, .d, .d, .d, .d, .d, .d, .d, .d], [(0, .grid ([Sh.int IntKind.i64, Sh.int IntKind.i64, Sh.int IntKind.i64]) x0_2), (1, .cells [.ext 2] 65), (2, .grid ([Sh.fn [(64, [(25, [Sh.sl [Sh.int IntKind.i64, Sh.int IntKind.i64]])]), (65, [(28, [Sh.int IntKind.i64])]), (67, [(103, [Sh.int IntKind.i64, Sh.int IntKind.i64, Sh.int IntKind.i64])]), (69, [(28, [Sh.int IntKind.i64])]), (73, [(103, [Sh.int IntKind.i64, Sh.int IntKind.i64, Sh.int IntKind.i64]), (28, [Sh.int IntKind.i64])])]]) x1_0), (3, .cells [.q x0_0, .q x0_1, .ext 0] 73), (4, .cells [.val true (.int .i64 0), .val true (.int .i64 0), .val true (Value.slice none 0 0)] 73), (14, .cells [.q x0_0, .q x0_1, .ext 15] 73), (15, .row ([Sh.int IntKind.i64, Sh.int IntKind.i64, Sh.int IntKind.i64]) 103 v.2)], 16, []⟩
noncomputable def gdo_L0_T (x0_0 : Int) (x0_1 : Int) (x0_2 : List (List Ct)) (x1_0 : List (List Ct)) (v : Int × List (List Ct)) : Ex × St := ((.exit 0), ⟨(gdo_L0_S x0_0 x0_1 x0_2 x1_0 v).fr, (gdo_L0_S x0_0 x0_1 x0_2 x1_0 v).hp, 17, []⟩)
noncomputable def gdo_L0_rd (ex : Ex) (s : St) : Option ((Int × List (List Ct)) ⊕ (Int × List (List Ct))) × List (Nat × Option Nat) := match ex with
  | .normal => (some (.inl (rI (frC s 23 0), rL s (hpC s 14 2))), [(3, some 3), (4, some 4), (14, some 14), rnOf 15 (hpC s 14 2)])
  | .exit i => bif Nat.beq i 0 then (some (.inr (rI (frC s 23 0), rL s (hpC s 14 2))), [(3, some 3), (4, some 4), (14, some 14), (15, some 15)]) else (none, [])
  | _ => (none, [])
noncomputable def gdo_c32158129 (x0_2 : List (List Ct)) (x1_0 : List (List Ct)) (vi0 : Int) : Int × Int × Int := chn_v (rd x0_2 vi0.toNat 0).int (rd x0_2 vi0.toNat 1).int (rd x0_2 vi0.toNat 2).int x1_0
noncomputable def gdo_L0_step (x0_2 : List (List Ct)) (x1_0 : List (List Ct)) : (Int × List (List Ct)) → Option ((Int × List (List Ct)) ⊕ (Int × List (List Ct))) := fun v => match v with
  | (vi0, vl0) => bif (decide (vi0 < (↑x0_2.length : Int))) then (bif (decide ((0 : Int) ≤ vi0 ∧ vi0 < (↑x0_2.length : Int))) then bif (chn_L0_p (rd x0_2 vi0.toNat 0).int (rd x0_2 vi0.toNat 1).int (rd x0_2 vi0.toNat 2).int x1_0) then bif (decide (vl0.length + [[Ct.i (gdo_c32158129 x0_2 x1_0 vi0).fst, Ct.i (gdo_c32158129 x0_2 x1_0 vi0).snd.fst, Ct.i (gdo_c32158129 x0_2 x1_0 vi0).snd.snd]].length ≤ 9223372036854775807 ∧ (vl0.length + [[Ct.i (gdo_c32158129 x0_2 x1_0 vi0).fst, Ct.i (gdo_c32158129 x0_2 x1_0 vi0).snd.fst, Ct.i (gdo_c32158129 x0_2 x1_0 vi0).snd.snd]].length) * 24 ≤ 140737488355328)) then some (.inl (IntKind.i64.wrap (vi0 + (1 : Int)), vl0 ++ [[Ct.i (gdo_c32158129 x0_2 x1_0 vi0).fst, Ct.i (gdo_c32158129 x0_2 x1_0 vi0).snd.fst, Ct.i (gdo_c32158129 x0_2 x1_0 vi0).snd.snd]])) else none else none else none) else some (.inr (vi0, vl0))
noncomputable def gdo_L0_c : Code := loopC Try.prog 29 0
set_option maxRecDepth 100000 in
theorem gdo_L0_ok (x0_0 : Int) (x0_1 : Int) (x0_2 : List (List Ct)) (x1_0 : List (List Ct)) : ∀ v, StepOk Try.prog 3 gdo_L0_c (gdo_L0_S x0_0 x0_1 x0_2 x1_0) (gdo_L0_T x0_0 x0_1 x0_2 x1_0) v (gdo_L0_step x0_2 x1_0 v) := fun v => match v with | (vi0, vl0) => eng_step (C := (⟨(chn_con :: (consGrade4 ++ consFilm1)), fun _ _ _ => none, fun f => ⟨false, Nat.beq f 29⟩, noFacts, fun _ => 104⟩ : Cfg Try.prog)) noFacts_ok (n := 30) (f := 29) gdo_L0_rd (fun _ => rfl) (by kernel_rfl)
noncomputable def gdo_L0_p (x0_2 : List (List Ct)) (x1_0 : List (List Ct)) : Bool := (iter (gdo_L0_step x0_2 x1_0) (x0_2.length + 1) (0, [])).isSome
noncomputable def gdo_L0_v (x0_2 : List (List Ct)) (x1_0 : List (List Ct)) : Int × List (List Ct) := loopRes (gdo_L0_step x0_2 x1_0) (x0_2.length + 1) (0, [])
set_option maxRecDepth 100000 in
noncomputable def gdo_L0_lc (x0_0 : Int) (x0_1 : Int) (x0_2 : List (List Ct)) (x1_0 : List (List Ct)) : LoopCon Try.prog := loopCon Try.prog 3 gdo_L0_c [(3, some 3), (4, some 4), (14, some 14), (15, none)] (gdo_L0_S x0_0 x0_1 x0_2 x1_0) (gdo_L0_T x0_0 x0_1 x0_2 x1_0) 0 (gdo_L0_step x0_2 x1_0) (gdo_L0_ok x0_0 x0_1 x0_2 x1_0) (x0_2.length + 1) (0, []) (gdo_L0_p x0_2 x1_0) rfl (gdo_L0_v x0_2 x1_0) rfl
noncomputable def gdo_O (v : Int × Int × Int × List (List Ct)) : Out := ⟨.tup [.agg [.val false (.int .i64 v.1), .val false (.int .i64 v.2.1), .ext 15], .one (.val false (.int .i64 v.2.2.1))], [(15, .row ([Sh.int IntKind.i64, Sh.int IntKind.i64, Sh.int IntKind.i64]) 103 v.2.2.2)], 17, []⟩
noncomputable def gdo_rd (out : Out) : Option (Int × Int × Int × List (List Ct)) := some (rI (rvC out.v 0 0), rI (rvC out.v 0 1), rI (rvC out.v 1 0), hpL' out.up 15)
noncomputable def gdo_res (x0_0 : Int) (x0_1 : Int) (x0_2 : List (List Ct)) (x1_0 : List (List Ct)) : Option (Int × Int × Int × List (List Ct)) := bif (bif !bif bif decide (x0_0 ≥ (1 : Int)) then bif decide (x0_0 ≤ (64 : Int)) then bif decide (x0_1 ≥ (1 : Int)) then decide (x0_1 ≤ (64 : Int)) else false else false else false then (↑x0_2.length : Int) == IntKind.i64.wrap (x0_0 * x0_1) else false then true else false) then (some (0, 0, 1, [])) else bif (gdo_L0_p x0_2 x1_0) then some (x0_0, x0_1, 0, (gdo_L0_v x0_2 x1_0).snd) else none
set_option maxRecDepth 100000 in
theorem gdo_tree {x0_0 : Int} {x0_1 : Int} {x0_2 : List (List Ct)} {x1_0 : List (List Ct)} {v : Int × Int × Int × List (List Ct)} (h : gdo_res x0_0 x0_1 x0_2 x1_0 = some v) : CallOk Try.prog 29 [.sv (.agg [.val false (.int .i64 x0_0), .val false (.int .i64 x0_1), .ext 0]), .sv (.one (.fn 55 [(1, 0)]))] [(0, .grid [.int .i64, .int .i64, .int .i64] x0_2), (1, .cells [.ext 2] 65), (2, .grid [Sh.fn [(64, [(25, [Sh.sl [Sh.int IntKind.i64, Sh.int IntKind.i64]])]), (65, [(28, [Sh.int IntKind.i64])]), (67, [(103, [Sh.int IntKind.i64, Sh.int IntKind.i64, Sh.int IntKind.i64])]), (69, [(28, [Sh.int IntKind.i64])]), (73, [(103, [Sh.int IntKind.i64, Sh.int IntKind.i64, Sh.int IntKind.i64]), (28, [Sh.int IntKind.i64])])]] x1_0)] 3 (gdo_O v) :=
  eng_treeN (C := (⟨(chn_con :: (consGrade4 ++ consFilm1)), fun f id nx => bif Nat.beq f 29 then (bif Nat.beq id 0 then some (gdo_L0_lc x0_0 x0_1 x0_2 x1_0) else none) else none, fun f => ⟨false, Nat.beq f 29⟩, noFacts, fun _ => 104⟩ : Cfg Try.prog)) noFacts_ok (n := 30) (f := 29) gdo_O gdo_rd rfl (by kernel_rfl) h
noncomputable def gdo_v (x0_0 : Int) (x0_1 : Int) (x0_2 : List (List Ct)) (x1_0 : List (List Ct)) : Int × Int × Int × List (List Ct) := (bif shr x0_0 x0_1 x0_2.length then x0_0 else 0, bif shr x0_0 x0_1 x0_2.length then x0_1 else 0, bif shr x0_0 x0_1 x0_2.length then 0 else 1, bif shr x0_0 x0_1 x0_2.length then (gdo_L0_v x0_2 x1_0).2 else [])
theorem gdo_spec (x0_0 : Int) (x0_1 : Int) (x0_2 : List (List Ct)) (x1_0 : List (List Ct)) (h : (!shr x0_0 x0_1 x0_2.length || gdo_L0_p x0_2 x1_0) = true) : gdo_res x0_0 x0_1 x0_2 x1_0 = some (gdo_v x0_0 x0_1 x0_2 x1_0) := by
  by_cases q : 1 ≤ x0_0 ∧ x0_0 ≤ 64 ∧ 1 ≤ x0_1 ∧ x0_1 ≤ 64
  case pos =>
    obtain ⟨a, b, c, d⟩ := q
    have m := side_mul a b c d
    have w : IntKind.i64.wrap (x0_0 * x0_1) = x0_0 * x0_1 := wrap_in (by omega) (by omega)
    by_cases e : (x0_2.length : Int) = x0_0 * x0_1
    case pos =>
      have r : shr x0_0 x0_1 x0_2.length = true := by unfold shr; exact decide_eq_true ⟨a, b, c, d, e⟩
      have p : gdo_L0_p x0_2 x1_0 = true := by rw [r] at h; exact h
      unfold gdo_res gdo_v
      rw [r, p, w, ← e]
      simp [a, b, c, d]
    case neg =>
      have r : shr x0_0 x0_1 x0_2.length = false := by unfold shr; exact decide_eq_false fun k => e k.2.2.2.2
      have e' : ((x0_2.length : Int) == x0_0 * x0_1) = false := beq_eq_false_iff_ne.2 e
      unfold gdo_res gdo_v
      rw [r, w, e']
      simp
  case neg =>
    have r : shr x0_0 x0_1 x0_2.length = false := by unfold shr; exact decide_eq_false fun k => q ⟨k.1, k.2.1, k.2.2.1, k.2.2.2.1⟩
    unfold gdo_res gdo_v
    rw [r]
    by_cases a : 1 ≤ x0_0
    case neg => simp [a]
    by_cases b : x0_0 ≤ 64
    case neg => simp [b]
    by_cases c : 1 ≤ x0_1
    case neg => simp [c]
    by_cases d : x0_1 ≤ 64
    case neg => simp [d]
    exact absurd ⟨a, b, c, d⟩ q
noncomputable def gdo_as : List ASh := [.agg [.int .i64, .int .i64, .grid [.int .i64, .int .i64, .int .i64]], .clo 55 65 [.grid [Sh.fn [(64, [(25, [Sh.sl [Sh.int IntKind.i64, Sh.int IntKind.i64]])]), (65, [(28, [Sh.int IntKind.i64])]), (67, [(103, [Sh.int IntKind.i64, Sh.int IntKind.i64, Sh.int IntKind.i64])]), (69, [(28, [Sh.int IntKind.i64])]), (73, [(103, [Sh.int IntKind.i64, Sh.int IntKind.i64, Sh.int IntKind.i64]), (28, [Sh.int IntKind.i64])])]]]]
noncomputable def gdo_con : Con Try.prog := conS Try.prog 29 gdo_as (fun x => some (!shr (x.getD 0 (.i 0)).int (x.getD 1 (.i 0)).int (x.getD 2 (.i 0)).rows.length || gdo_L0_p (x.getD 2 (.i 0)).rows (x.getD 3 (.i 0)).rows)) (fun x => gdo_O (gdo_v (x.getD 0 (.i 0)).int (x.getD 1 (.i 0)).int (x.getD 2 (.i 0)).rows (x.getD 3 (.i 0)).rows))
  (fun x h => ⟨by kernel_rfl, by kernel_rfl, Eq.mp (by kernel_rfl) (@gdo_tree ((x.getD 0 (.i 0)).int) ((x.getD 1 (.i 0)).int) ((x.getD 2 (.i 0)).rows) ((x.getD 3 (.i 0)).rows) _ (gdo_spec ((x.getD 0 (.i 0)).int) ((x.getD 1 (.i 0)).int) ((x.getD 2 (.i 0)).rows) ((x.getD 3 (.i 0)).rows) (h _ rfl)))⟩)
end Go.Proofs.Ytonlllijdbjkaaa
