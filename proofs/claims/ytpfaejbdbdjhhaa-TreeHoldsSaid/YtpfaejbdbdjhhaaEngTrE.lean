/- How deep trees are. No condition. -/
import Derived.Test.YtpfaejbdbdjhhaaEngTrD
set_option linter.unusedVariables false
set_option linter.unusedSimpArgs false
namespace Go.Proofs.Ytpfaejbdbdjhhaa
open Go.RowKit

noncomputable def tdp_out (v : Int) : Out := ⟨.sv (.one (.val false (.int .i64 v))), [], 3, []⟩
/-- What is known of a call of fewer. -/
class TdpIn where
  p : List (List Ct) → List (List Ct) → Int → Bool
  v : List (List Ct) → List (List Ct) → Int → Int
  ok : ∀ n o a, p n o a = true → CallOk Try.prog 20 [.sv (.agg [.ext 0, .ext 1]), .sv (.one (.val false (.int .i64 a)))] [(0, .grid [.int .i64, .int .i64, .int .i64, .int .i64, .int .i64, .int .i64, .int .i64, .int .i64, .int .i64, .int .i64, .int .i64, .int .i64, .int .i64, .int .i64, .int .i64, .int .i64] n), (1, .grid [.int .i64] o)] 2 (tdp_out (v n o a))
noncomputable def tdp_as : List ASh := [.agg [.grid [.int .i64, .int .i64, .int .i64, .int .i64, .int .i64, .int .i64, .int .i64, .int .i64, .int .i64, .int .i64, .int .i64, .int .i64, .int .i64, .int .i64, .int .i64, .int .i64], .grid [.int .i64]], .one (.int .i64)]
noncomputable def tdpC (I : TdpIn) : Con Try.prog := conS Try.prog 20 tdp_as (fun x => some (I.p (x.getD 0 (.i 0)).rows (x.getD 1 (.i 0)).rows (x.getD 2 (.i 0)).int)) (fun x => tdp_out (I.v (x.getD 0 (.i 0)).rows (x.getD 1 (.i 0)).rows (x.getD 2 (.i 0)).int))
  (fun x h => ⟨by kernel_rfl, by kernel_rfl, Eq.mp (by kernel_rfl) (I.ok (x.getD 0 (.i 0)).rows (x.getD 1 (.i 0)).rows (x.getD 2 (.i 0)).int (h _ rfl))⟩)
variable [I : TdpIn]
noncomputable def tdpIn_con : Con Try.prog := tdpC I
noncomputable def tdp_O (v : Int) : Out := ⟨.sv (.one (.val false (.int .i64 v))), [], 13, []⟩
noncomputable def tdp_rd (out : Out) : Option (Int) := some (rI (rvC out.v 0 0))
noncomputable def tdp_res (x0_0 : List (List Ct)) (x0_1 : List (List Ct)) (x1 : Int) : Option (Int) := bif (decide (x1 < (0 : Int))) then (some 0) else bif (decide (x1 ≥ (↑x0_0.length : Int))) then (some 0) else bif (decide ((0 : Int) ≤ x1 ∧ x1 < (↑x0_0.length : Int))) then bif (decide ((rd x0_0 x1.toNat 15).int > (0 : Int))) then (some 1) else bif (decide ((rd x0_0 x1.toNat 12).int ≤ x1)) then (some 1) else bif (decide ((rd x0_0 x1.toNat 13).int ≤ x1)) then (some 1) else bif (TdpIn.p x0_0 x0_1 (rd x0_0 x1.toNat 12).int) then bif (TdpIn.p x0_0 x0_1 (rd x0_0 x1.toNat 13).int) then some (IntKind.i64.wrap ((1 : Int) + if TdpIn.v x0_0 x0_1 (rd x0_0 x1.toNat 13).int > TdpIn.v x0_0 x0_1 (rd x0_0 x1.toNat 12).int then TdpIn.v x0_0 x0_1 (rd x0_0 x1.toNat 13).int else TdpIn.v x0_0 x0_1 (rd x0_0 x1.toNat 12).int)) else none else none else none
set_option maxRecDepth 100000 in
theorem tdp_tree {x0_0 : List (List Ct)} {x0_1 : List (List Ct)} {x1 : Int} {v : Int} (h : tdp_res x0_0 x0_1 x1 = some v) : CallOk Try.prog 20 [.sv (.agg [.ext 0, .ext 1]), .sv (.one (.val false (.int .i64 x1)))] [(0, .grid [.int .i64, .int .i64, .int .i64, .int .i64, .int .i64, .int .i64, .int .i64, .int .i64, .int .i64, .int .i64, .int .i64, .int .i64, .int .i64, .int .i64, .int .i64, .int .i64] x0_0), (1, .grid [.int .i64] x0_1)] 2 (tdp_O v) :=
  eng_tree (C := (⟨tdpIn_con :: consTrD, fun _ _ _ => none, fun f => false, noFacts, fun _ => 0⟩ : Cfg Try.prog)) noFacts_ok (n := 30) (f := 20) tdp_O tdp_rd rfl (by kernel_rfl) h

end Go.Proofs.Ytpfaejbdbdjhhaa
namespace Go.Proofs.Ytpfaejbdbdjhhaa
open Go.RowKit
/-- How deep, its calls of itself so many deep. -/
structure TdpB where
  i : TdpIn
noncomputable def tdpAt : Nat → TdpB
  | 0 => ⟨fun _ _ _ => false, fun _ _ _ => 0, fun _ _ _ h => by cases h⟩
  | k + 1 => ⟨fun n o a => (@tdp_res (tdpAt k).i n o a).isSome, fun n o a => (@tdp_res (tdpAt k).i n o a).getD 0, fun n o a h => CallOk.pack (L := []) (nx2 := 3) (@tdp_tree (tdpAt k).i n o a _ (opt_get h)) (by kernel_rfl)⟩
noncomputable def tdpd_p (n o : List (List Ct)) (a : Int) : Bool := (tdpAt 600).i.p n o a
noncomputable def tdpd_v (n o : List (List Ct)) (a : Int) : Int := (tdpAt 600).i.v n o a
noncomputable def tdpd_con : Con Try.prog := conS Try.prog 20 tdp_as (fun x => some (tdpd_p (x.getD 0 (.i 0)).rows (x.getD 1 (.i 0)).rows (x.getD 2 (.i 0)).int)) (fun x => tdp_out (tdpd_v (x.getD 0 (.i 0)).rows (x.getD 1 (.i 0)).rows (x.getD 2 (.i 0)).int))
  (fun x h => ⟨by kernel_rfl, by kernel_rfl, Eq.mp (by kernel_rfl) ((tdpAt 600).i.ok (x.getD 0 (.i 0)).rows (x.getD 1 (.i 0)).rows (x.getD 2 (.i 0)).int (h _ rfl))⟩)

noncomputable def rdp_out (v : Int) : Out := ⟨.sv (.one (.val false (.int .i64 v))), [], 3, []⟩
/-- What is known of a call of fewer. -/
class RdpIn where
  p : List (List Ct) → List (List Ct) → Int → Bool
  v : List (List Ct) → List (List Ct) → Int → Int
  ok : ∀ n o a, p n o a = true → CallOk Try.prog 10 [.sv (.agg [.ext 0, .ext 1]), .sv (.one (.val false (.int .i64 a)))] [(0, .grid [.int .i64, .int .i64, .int .i64, .int .i64, .int .i64, .int .i64, .int .i64, .int .i64, .int .i64, .int .i64, .int .i64, .int .i64, .int .i64, .int .i64, .int .i64, .int .i64] n), (1, .grid [.int .i64] o)] 2 (rdp_out (v n o a))
noncomputable def rdp_as : List ASh := [.agg [.grid [.int .i64, .int .i64, .int .i64, .int .i64, .int .i64, .int .i64, .int .i64, .int .i64, .int .i64, .int .i64, .int .i64, .int .i64, .int .i64, .int .i64, .int .i64, .int .i64], .grid [.int .i64]], .one (.int .i64)]
noncomputable def rdpC (I : RdpIn) : Con Try.prog := conS Try.prog 10 rdp_as (fun x => some (I.p (x.getD 0 (.i 0)).rows (x.getD 1 (.i 0)).rows (x.getD 2 (.i 0)).int)) (fun x => rdp_out (I.v (x.getD 0 (.i 0)).rows (x.getD 1 (.i 0)).rows (x.getD 2 (.i 0)).int))
  (fun x h => ⟨by kernel_rfl, by kernel_rfl, Eq.mp (by kernel_rfl) (I.ok (x.getD 0 (.i 0)).rows (x.getD 1 (.i 0)).rows (x.getD 2 (.i 0)).int (h _ rfl))⟩)
variable [I : RdpIn]
noncomputable def rdpIn_con : Con Try.prog := rdpC I
noncomputable def rdp_O (v : Int) : Out := ⟨.sv (.one (.val false (.int .i64 v))), [], 11, []⟩
noncomputable def rdp_rd (out : Out) : Option (Int) := some (rI (rvC out.v 0 0))
noncomputable def rdp_res (x0_0 : List (List Ct)) (x0_1 : List (List Ct)) (x1 : Int) : Option (Int) := bif ((↑x0_0.length : Int) == (0 : Int)) then (some 0) else bif (decide ((0 : Int) ≤ x1 ∧ x1 < (↑x0_0.length : Int))) then bif (decide ((rd x0_0 x1.toNat 15).int > (0 : Int))) then (some 1) else bif (decide ((0 : Int) ≤ x1 ∧ x1 < (↑x0_0.length : Int))) then bif (RdpIn.p x0_0 x0_1 (rd x0_0 x1.toNat 12).int) then bif (decide ((0 : Int) ≤ x1 ∧ x1 < (↑x0_0.length : Int))) then bif (RdpIn.p x0_0 x0_1 (rd x0_0 x1.toNat 13).int) then bif (decide (RdpIn.v x0_0 x0_1 (rd x0_0 x1.toNat 12).int > RdpIn.v x0_0 x0_1 (rd x0_0 x1.toNat 13).int)) then (some (IntKind.i64.wrap (RdpIn.v x0_0 x0_1 (rd x0_0 x1.toNat 12).int + (1 : Int)))) else some (IntKind.i64.wrap (RdpIn.v x0_0 x0_1 (rd x0_0 x1.toNat 13).int + (1 : Int))) else none else none else none else none else none
set_option maxRecDepth 100000 in
theorem rdp_tree {x0_0 : List (List Ct)} {x0_1 : List (List Ct)} {x1 : Int} {v : Int} (h : rdp_res x0_0 x0_1 x1 = some v) : CallOk Try.prog 10 [.sv (.agg [.ext 0, .ext 1]), .sv (.one (.val false (.int .i64 x1)))] [(0, .grid [.int .i64, .int .i64, .int .i64, .int .i64, .int .i64, .int .i64, .int .i64, .int .i64, .int .i64, .int .i64, .int .i64, .int .i64, .int .i64, .int .i64, .int .i64, .int .i64] x0_0), (1, .grid [.int .i64] x0_1)] 2 (rdp_O v) :=
  eng_tree (C := (⟨rdpIn_con :: consTrD, fun _ _ _ => none, fun f => false, noFacts, fun _ => 0⟩ : Cfg Try.prog)) noFacts_ok (n := 30) (f := 10) rdp_O rdp_rd rfl (by kernel_rfl) h

end Go.Proofs.Ytpfaejbdbdjhhaa
namespace Go.Proofs.Ytpfaejbdbdjhhaa
open Go.RowKit
/-- How deep, its calls of itself so many deep. -/
structure RdpB where
  i : RdpIn
noncomputable def rdpAt : Nat → RdpB
  | 0 => ⟨fun _ _ _ => false, fun _ _ _ => 0, fun _ _ _ h => by cases h⟩
  | k + 1 => ⟨fun n o a => (@rdp_res (rdpAt k).i n o a).isSome, fun n o a => (@rdp_res (rdpAt k).i n o a).getD 0, fun n o a h => CallOk.pack (L := []) (nx2 := 3) (@rdp_tree (rdpAt k).i n o a _ (opt_get h)) (by kernel_rfl)⟩
noncomputable def rdpd_p (n o : List (List Ct)) (a : Int) : Bool := (rdpAt 600).i.p n o a
noncomputable def rdpd_v (n o : List (List Ct)) (a : Int) : Int := (rdpAt 600).i.v n o a
noncomputable def rdpd_con : Con Try.prog := conS Try.prog 10 rdp_as (fun x => some (rdpd_p (x.getD 0 (.i 0)).rows (x.getD 1 (.i 0)).rows (x.getD 2 (.i 0)).int)) (fun x => rdp_out (rdpd_v (x.getD 0 (.i 0)).rows (x.getD 1 (.i 0)).rows (x.getD 2 (.i 0)).int))
  (fun x h => ⟨by kernel_rfl, by kernel_rfl, Eq.mp (by kernel_rfl) ((rdpAt 600).i.ok (x.getD 0 (.i 0)).rows (x.getD 1 (.i 0)).rows (x.getD 2 (.i 0)).int (h _ rfl))⟩)
noncomputable def consTrE : List (Con Try.prog) := [tdpd_con, rdpd_con] ++ consTrD
end Go.Proofs.Ytpfaejbdbdjhhaa
