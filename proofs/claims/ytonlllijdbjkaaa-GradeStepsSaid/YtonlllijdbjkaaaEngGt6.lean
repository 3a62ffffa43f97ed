/- The example of layer 39, its tree. No condition. -/
import Derived.Test.YtonlllijdbjkaaaEngGrade3
import Derived.Test.YtonlllijdbjkaaaEngGt5
set_option linter.unusedVariables false
set_option linter.unusedSimpArgs false
namespace Go.Proofs.Ytonlllijdbjkaaa
open Go.RowKit

noncomputable def awk_c47416075 : Int := cat_v [[Ct.i (0 : Int), Ct.i (0 : Int)], [Ct.i (65536 : Int), Ct.i (131072 : Int)]] (32768 : Int)
noncomputable def awk_c87639024 : List (List Ct) × Int := spr_v (1 : Int) (1 : Int) [[Ct.i (10 : Int), Ct.i (20 : Int), Ct.i (20 : Int)]]
noncomputable def awk_O (v : Unit) : Out := ⟨.sv (.one (.val false (.bool (bif awk_c47416075 == (65536 : Int) then bif awk_c87639024.snd == (0 : Int) then bif (rd awk_c87639024.fst (Int.toNat (10 : Int)) 0).int == (0 : Int) then bif (rd awk_c87639024.fst (Int.toNat (15 : Int)) 0).int == (127 : Int) then (rd awk_c87639024.fst (Int.toNat (20 : Int)) 0).int == (255 : Int) else false else false else false else false)))), [], 52, []⟩
noncomputable def awk_rd (out : Out) : Option (Unit) := some ()
noncomputable def awk_res  : Option (Unit) := bif (byteB [[Ct.i (10 : Int), Ct.i (20 : Int), Ct.i (20 : Int)]] 3 && decide ([[Ct.i (10 : Int), Ct.i (20 : Int), Ct.i (20 : Int)]].length ≤ 5000)) then bif (decide ((List.replicate 256 [Ct.i (0 : Int)]).length = 256 ∧ awk_c87639024.fst.length = 256)) then bif (bif awk_c47416075 == (65536 : Int) then bif awk_c87639024.snd == (0 : Int) then decide ((0 : Int) ≤ (10 : Int) ∧ (10 : Int) < (↑256 : Int) ∧ (10 : Int) < (↑awk_c87639024.fst.length : Int)) && bif (rd awk_c87639024.fst (Int.toNat (10 : Int)) 0).int == (0 : Int) then decide ((0 : Int) ≤ (15 : Int) ∧ (15 : Int) < (↑256 : Int) ∧ (15 : Int) < (↑awk_c87639024.fst.length : Int)) && bif (rd awk_c87639024.fst (Int.toNat (15 : Int)) 0).int == (127 : Int) then decide ((0 : Int) ≤ (20 : Int) ∧ (20 : Int) < (↑256 : Int) ∧ (20 : Int) < (↑awk_c87639024.fst.length : Int)) else true else true else true else true) then some () else none else none else none
set_option maxRecDepth 100000 in
theorem awk_tree  {v : Unit} (h : awk_res  = some v) : CallOk Try.prog 7 [] [] 0 (awk_O v) :=
  eng_tree (C := (⟨(spr_con.freeze :: consGrade3), fun _ _ _ => none, fun f => ⟨false, Nat.beq f 7⟩, noFacts, fun _ => 104⟩ : Cfg Try.prog)) noFacts_ok (n := 30) (f := 7) awk_O awk_rd rfl (by kernel_rfl) h
end Go.Proofs.Ytonlllijdbjkaaa
