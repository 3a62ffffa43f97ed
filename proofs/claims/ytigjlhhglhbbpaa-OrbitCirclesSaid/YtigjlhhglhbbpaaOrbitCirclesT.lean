/- The law OrbitCircles, its tree. No condition. -/
import Derived.Test.YtigjlhhglhbbpaaEngOrbit9
set_option linter.unusedVariables false
set_option linter.unusedSimpArgs false
namespace Go.Proofs.Ytigjlhhglhbbpaa
open Go.RowKit

noncomputable def loc_O (v : Bool) : Out := ⟨.sv (.one (.val false (.bool v))), [], 93, []⟩
noncomputable def loc_rd (out : Out) : Option (Bool) := some (rB (rvC out.v 0 0))
noncomputable def loc_res (x0_0 : Int) (x0_1 : Int) (x0_2 : Int) (x1 : Int) (x2 : Int) (x3 : Int) (x4 : Int) (x5 : Int) (x6 : Int) : Option (Bool) := bif ((okc_res (1 : Int) x4 x5 x6 x3 x6 x1 x2 x0_0 x0_1 x0_2).isSome) then bif ((rci_res x0_0 x0_1 x0_2 x1 x2 x3 x4 x5 x6).isSome) then bif ((okc_v (1 : Int) x4 x5 x6 x3 x6 x1 x2 x0_0 x0_1 x0_2).snd.fst == (rci_v x0_0 x0_1 x0_2 x1 x2 x3 x4 x5 x6).snd.fst) then (bif ((tfr_res (okc_v (1 : Int) x4 x5 x6 x3 x6 x1 x2 x0_0 x0_1 x0_2).fst (okc_v (1 : Int) x4 x5 x6 x3 x6 x1 x2 x0_0 x0_1 x0_2).snd.snd).isSome) then bif ((rsa_res (tfr_v (okc_v (1 : Int) x4 x5 x6 x3 x6 x1 x2 x0_0 x0_1 x0_2).fst (okc_v (1 : Int) x4 x5 x6 x3 x6 x1 x2 x0_0 x0_1 x0_2).snd.snd).fst (tfr_v (okc_v (1 : Int) x4 x5 x6 x3 x6 x1 x2 x0_0 x0_1 x0_2).fst (okc_v (1 : Int) x4 x5 x6 x3 x6 x1 x2 x0_0 x0_1 x0_2).snd.snd).snd (rci_v x0_0 x0_1 x0_2 x1 x2 x3 x4 x5 x6).fst (rci_v x0_0 x0_1 x0_2 x1 x2 x3 x4 x5 x6).snd.snd).isSome) then some (rsa_v (tfr_v (okc_v (1 : Int) x4 x5 x6 x3 x6 x1 x2 x0_0 x0_1 x0_2).fst (okc_v (1 : Int) x4 x5 x6 x3 x6 x1 x2 x0_0 x0_1 x0_2).snd.snd).fst (tfr_v (okc_v (1 : Int) x4 x5 x6 x3 x6 x1 x2 x0_0 x0_1 x0_2).fst (okc_v (1 : Int) x4 x5 x6 x3 x6 x1 x2 x0_0 x0_1 x0_2).snd.snd).snd (rci_v x0_0 x0_1 x0_2 x1 x2 x3 x4 x5 x6).fst (rci_v x0_0 x0_1 x0_2 x1 x2 x3 x4 x5 x6).snd.snd) else none else none) else some false else none else none
set_option maxRecDepth 100000 in
theorem loc_tree {x0_0 : Int} {x0_1 : Int} {x0_2 : Int} {x1 : Int} {x2 : Int} {x3 : Int} {x4 : Int} {x5 : Int} {x6 : Int} {v : Bool} (h : loc_res x0_0 x0_1 x0_2 x1 x2 x3 x4 x5 x6 = some v) : CallOk Try.prog 4 [.sv (.agg [.val false (.int .i64 x0_0), .val false (.int .i64 x0_1), .val false (.int .i64 x0_2)]), .sv (.one (.val false (.int .i64 x1))), .sv (.one (.val false (.int .i64 x2))), .sv (.one (.val false (.int .i64 x3))), .sv (.one (.val false (.int .i64 x4))), .sv (.one (.val false (.int .i64 x5))), .sv (.one (.val false (.int .i64 x6)))] [] 0 (loc_O v) :=
  eng_tree (C := (⟨consOrbit9, fun _ _ _ => none, fun f => false, noFacts, fun _ => 0⟩ : Cfg Try.prog)) noFacts_ok (n := 30) (f := 4) loc_O loc_rd rfl (by kernel_rfl) h
end Go.Proofs.Ytigjlhhglhbbpaa
