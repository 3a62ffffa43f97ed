/- What GlanceFrames answers. No condition. -/
import Derived.Test.YtjjijaeoafeocaaEngGl5
import Derived.Test.YtjjijaeoafeocaaEngGlA
set_option linter.unusedVariables false
set_option linter.unusedSimpArgs false
namespace Go.Proofs.Ytjjijaeoafeocaa
open Go.RowKit

noncomputable def lgf_L0_S (x0 : ByteArray) (x1 : List (List Ct)) (v : Int × Int) : St := ⟨[.o (.val false (.string x0)), .o (.ext 0), .d, .d, .o (.val true (.bool false)), .o (.q v.1), .d, .d, .d, .d, .d, .o (.val false (.string x0)), .o (.q (↑x0.size : Int)), .o (.ext 0), .o (.q (↑x1.length : Int)), .o (.q v.2), .d, .d, .d, .d, .d, .d, .d, .d, .d, .d, .d, .d, .d, .d, .d, .d, .d, .d, .d, .d, .d, .d, .d, .d, .d, .d, .d, .d, .d, .d, .d, .d, .d, .d, .d, .d, .d, .d, .d, .d, .d, .d, .d, .d, .d, .d, .d, .d, .d], [(0, .grid ([Sh.str]) x1)], 1, []⟩
noncomputable def lgf_L0_T (x0 : ByteArray) (x1 : List (List Ct)) (v : Int × Int) : Ex × St := ((.exit 0), ⟨(lgf_L0_S x0 x1 v).fr, (lgf_L0_S x0 x1 v).hp, 2, []⟩)
noncomputable def lgf_L0_rd (ex : Ex) (s : St) : Option ((Int × Int) ⊕ (Int × Int)) × List (Nat × Option Nat) := match ex with
  | .normal => (some (.inl (rI (frC s 5 0), rI (frC s 15 0))), [])
  | .exit i => bif Nat.beq i 0 then (some (.inr (rI (frC s 5 0), rI (frC s 15 0))), []) else (none, [])
  | _ => (none, [])
noncomputable def lgf_L0_step (x1 : List (List Ct)) : (Int × Int) → Option ((Int × Int) ⊕ (Int × Int)) := fun v => match v with
  | (vi0, vi1) => bif (decide (vi1 < (↑x1.length : Int))) then (bif (decide ((0 : Int) ≤ vi1 ∧ vi1 < (↑x1.length : Int))) then some (.inl (IntKind.i64.wrap (vi0 + (↑(rd x1 vi1.toNat 0).str.size : Int)), IntKind.i64.wrap (vi1 + (1 : Int)))) else none) else some (.inr (vi0, vi1))
noncomputable def lgf_L0_c : Code := loopC Try.prog 3 0
set_option maxRecDepth 100000 in
theorem lgf_L0_ok (x0 : ByteArray) (x1 : List (List Ct)) : ∀ v, StepOk Try.prog 1 lgf_L0_c (lgf_L0_S x0 x1) (lgf_L0_T x0 x1) v (lgf_L0_step x1 v) := fun v => match v with | (vi0, vi1) => eng_step (C := (⟨(consGl5 ++ consGlA), fun _ _ _ => none, fun f => ⟨false, Nat.beq f 3⟩, noFacts, fun _ => 104⟩ : Cfg Try.prog)) noFacts_ok (n := 30) (f := 3) lgf_L0_rd (fun _ => rfl) (by kernel_rfl)
noncomputable def lgf_L0_p (x0 : ByteArray) (x1 : List (List Ct)) : Bool := (iter (lgf_L0_step x1) (x1.length + 5) ((↑x0.size : Int), 0)).isSome
noncomputable def lgf_L0_v (x0 : ByteArray) (x1 : List (List Ct)) : Int × Int := loopRes (lgf_L0_step x1) (x1.length + 5) ((↑x0.size : Int), 0)
set_option maxRecDepth 100000 in
noncomputable def lgf_L0_lc (x0 : ByteArray) (x1 : List (List Ct)) : LoopCon Try.prog := loopCon Try.prog 1 lgf_L0_c [] (lgf_L0_S x0 x1) (lgf_L0_T x0 x1) 0 (lgf_L0_step x1) (lgf_L0_ok x0 x1) (x1.length + 5) ((↑x0.size : Int), 0) (lgf_L0_p x0 x1) rfl (lgf_L0_v x0 x1) rfl
noncomputable def lgf_L2_S (x0 : ByteArray) (x1 : List (List Ct)) (v : Int) : St := ⟨[.o (.val false (.string x0)), .o (.ext 0), .d, .d, .o (.val true (.bool false)), .o (.q ((lgf_L0_v x0 x1).fst)), .d, .d, .o (.ext 14), .d, .d, .o (.val false (.string x0)), .o (.q (↑x0.size : Int)), .o (.ext 0), .o (.q (↑x1.length : Int)), .o (.q ((lgf_L0_v x0 x1).snd)), .d, .d, .d, .d, .d, .d, .d, .d, .o (.q (bif decide ((lgf_L0_v x0 x1).fst > (20000 : Int)) then (lgf_L0_v x0 x1).fst else (lgf_L0_v x0 x1).fst)), .o (.val false (.bool (bif decide ((lgf_L0_v x0 x1).fst > (20000 : Int)) then decide ((lgf_L0_v x0 x1).fst > (20000 : Int)) else decide ((lgf_L0_v x0 x1).fst > (20000 : Int))))), .o (.val false (.bool (bif decide ((lgf_L0_v x0 x1).fst > (20000 : Int)) then true else false))), .d, .d, .d, .o (.val true (.bool false)), .d, .o (.val false (.string x0)), .o (.ext 0), .o (.ext 14), .o (.ext 14), .o (.q (↑(gfr_v x0 x1).length : Int)), .o (.q v), .d, .d, .d, .d, .d, .d, .d, .d, .d, .d, .d, .d, .d, .d, .d, .d, .d, .d, .d, .d, .d, .d, .d, .d, .d, .d, .d], [(0, .grid ([Sh.str]) x1), (14, .row ([Sh.str]) 9 (gfr_v x0 x1))], 15, []⟩
noncomputable def lgf_L2_T (x0 : ByteArray) (x1 : List (List Ct)) : (Int) ⊕ (Unit) → Ex × St
  | .inl v => ((.exit 2), ⟨[.o (.val false (.string x0)), .o (.ext 0), .d, .d, .o (.val true (.bool false)), .o (.q ((lgf_L0_v x0 x1).fst)), .d, .d, .o (.ext 14), .d, .d, .o (.val false (.string x0)), .o (.q (↑x0.size : Int)), .o (.ext 0), .o (.q (↑x1.length : Int)), .o (.q ((lgf_L0_v x0 x1).snd)), .d, .d, .d, .d, .d, .d, .d, .d, .o (.q (bif decide ((lgf_L0_v x0 x1).fst > (20000 : Int)) then (lgf_L0_v x0 x1).fst else (lgf_L0_v x0 x1).fst)), .o (.val false (.bool (bif decide ((lgf_L0_v x0 x1).fst > (20000 : Int)) then decide ((lgf_L0_v x0 x1).fst > (20000 : Int)) else decide ((lgf_L0_v x0 x1).fst > (20000 : Int))))), .o (.val false (.bool (bif decide ((lgf_L0_v x0 x1).fst > (20000 : Int)) then true else false))), .d, .d, .d, .o (.val true (.bool false)), .d, .o (.val false (.string x0)), .o (.ext 0), .o (.ext 14), .o (.ext 14), .o (.q (↑(gfr_v x0 x1).length : Int)), .o (.q v), .d, .d, .d, .d, .d, .d, .d, .d, .d, .d, .d, .d, .d, .d, .d, .d, .d, .d, .d, .d, .d, .d, .d, .d, .d, .d, .d], [(0, .grid ([Sh.str]) x1), (14, .row ([Sh.str]) 9 (gfr_v x0 x1))], 16, []⟩)
  | .inr v => (.ret, ⟨[.dead, .dead, .dead, .dead, .sv (.one (.val true (.bool false))), .dead, .dead, .dead, .dead, .dead, .dead, .dead, .dead, .dead, .dead, .dead, .dead, .dead, .dead, .dead, .dead, .dead, .dead, .dead, .dead, .dead, .dead, .dead, .dead, .dead, .dead, .dead, .dead, .dead, .dead, .dead, .dead, .dead, .dead, .dead, .dead, .dead, .dead, .dead, .dead, .dead, .dead, .dead, .dead, .dead, .dead, .dead, .dead, .dead, .dead, .dead, .dead, .dead, .dead, .dead, .dead, .dead, .dead, .dead, .dead], [(0, .grid ([Sh.str]) x1)], 19, []⟩)
noncomputable def lgf_L2_rd (ex : Ex) (s : St) : Option ((Int) ⊕ ((Int) ⊕ (Unit))) × List (Nat × Option Nat) := match ex with
  | .normal => (some (.inl (rI (frC s 37 0))), [(14, some 14)])
  | .exit i => bif Nat.beq i 2 then (some (.inr (.inl (rI (frC s 37 0)))), [(14, some 14)]) else (none, [])
  | .ret => (some (.inr (.inr ())), [])
noncomputable def lgf_L2_step (x0 : ByteArray) (x1 : List (List Ct)) : (Int) → Option ((Int) ⊕ ((Int) ⊕ (Unit))) := fun v => match v with
  | vi0 => bif (decide (vi0 < (↑(gfr_v x0 x1).length : Int))) then (bif (decide ((0 : Int) ≤ vi0 ∧ vi0 < (↑(gfr_v x0 x1).length : Int))) then bif (decide ((0 : Int) ≤ (0 : Int) ∧ (0 : Int) < (↑(gfr_v x0 x1).length : Int))) then bif ((↑(rd (gfr_v x0 x1) vi0.toNat 0).str.size : Int) != (↑(rd (gfr_v x0 x1) (Int.toNat (0 : Int)) 0).str.size : Int)) then (some (.inr (.inr ()))) else some (.inl (IntKind.i64.wrap (vi0 + (1 : Int)))) else none else none) else some (.inr (.inl vi0))
noncomputable def lgf_L2_c : Code := loopC Try.prog 3 2
set_option maxRecDepth 100000 in
theorem lgf_L2_ok (x0 : ByteArray) (x1 : List (List Ct)) : ∀ v, StepOk Try.prog 1 lgf_L2_c (lgf_L2_S x0 x1) (lgf_L2_T x0 x1) v (lgf_L2_step x0 x1 v) := fun v => match v with | vi0 => eng_step (C := (⟨(consGl5 ++ consGlA), fun f id nx => bif Nat.beq f 3 then (bif Nat.beq id 0 then some (lgf_L0_lc x0 x1) else none) else none, fun f => ⟨false, Nat.beq f 3⟩, noFacts, fun _ => 104⟩ : Cfg Try.prog)) noFacts_ok (n := 30) (f := 3) lgf_L2_rd (fun r => by cases r <;> rfl) (by kernel_rfl)
noncomputable def lgf_L2_p (x0 : ByteArray) (x1 : List (List Ct)) : Bool := (iter (lgf_L2_step x0 x1) (x1.length + 5) 0).isSome
noncomputable def lgf_L2_v (x0 : ByteArray) (x1 : List (List Ct)) : (Int) ⊕ (Unit) := (iter (lgf_L2_step x0 x1) (x1.length + 5) 0).getD (.inl default)
set_option maxRecDepth 100000 in
noncomputable def lgf_L2_lc (x0 : ByteArray) (x1 : List (List Ct)) : LoopCon Try.prog := loopCon2 Try.prog 1 lgf_L2_c [(14, some 14)] (lgf_L2_S x0 x1) (lgf_L2_T x0 x1) 2 (lgf_L2_step x0 x1) (lgf_L2_ok x0 x1) (x1.length + 5) 0 (lgf_L2_p x0 x1) rfl (lgf_L2_v x0 x1) rfl
noncomputable def lgf_O (v : Bool) : Out := ⟨.sv (.one (.val false (.bool v))), [], 36, []⟩
noncomputable def lgf_rd (out : Out) : Option (Bool) := some (rB (rvC out.v 0 0))
noncomputable def lgf_c5278249 (x0 : ByteArray) (x1 : List (List Ct)) : Bool := sam_v (gfr_v x0 x1) (rfr_v x0 x1)
noncomputable def lgf_res (x0 : ByteArray) (x1 : List (List Ct)) : Option (Bool) := bif (lgf_L0_p x0 x1) then bif (bif decide ((lgf_L0_v x0 x1).fst > (20000 : Int)) then true else decide ((↑x1.length : Int) > (100 : Int))) then (some true) else bif ((gfr_res x0 x1).isSome) then bif (lgf_L2_p x0 x1) then bif (isL (lgf_L2_v x0 x1)) then (bif ((rfr_res x0 x1).isSome && (sam_res (gfr_v x0 x1) (rfr_v x0 x1)).isSome) then some (bif lgf_c5278249 x0 x1 then (↑(gfr_v x0 x1).length : Int) == IntKind.i64.wrap ((↑x1.length : Int) + (4 : Int)) else false) else none) else some false else none else none else none
set_option maxRecDepth 100000 in
theorem lgf_tree {x0 : ByteArray} {x1 : List (List Ct)} {v : Bool} (h : lgf_res x0 x1 = some v) : CallOk Try.prog 3 [.sv (.one (.val false (.string x0))), .sv (.one (.ext 0))] [(0, .grid [.str] x1)] 1 (lgf_O v) :=
  eng_tree (C := (⟨(consGl5 ++ consGlA), fun f id nx => bif Nat.beq f 3 then (bif Nat.beq id 0 then some (lgf_L0_lc x0 x1) else bif Nat.beq id 2 then some (lgf_L2_lc x0 x1) else none) else none, fun f => ⟨false, Nat.beq f 3⟩, noFacts, fun _ => 104⟩ : Cfg Try.prog)) noFacts_ok (n := 30) (f := 3) lgf_O lgf_rd rfl (by kernel_rfl) h
end Go.Proofs.Ytjjijaeoafeocaa
