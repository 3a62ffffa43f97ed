/- A level that goes well, as a contract: its error is a known nought. No condition. -/
import Derived.Test.YtijidmcblpgfkaaDoorEngLcE
set_option linter.unusedVariables false
set_option linter.unusedSimpArgs false
namespace Go.Proofs.YtijidmcblpgfkaaDoor
open Go.RowKit

theorem CallOk.val {P : Program} {f : FuncId} {args : List RV} {hp : Hp} {nx : Nat} {out : Out} (h : CallOk P f args hp nx out) {v : RV} (hv : ∀ e, v.den e = out.v.den e) : CallOk P f args hp nx ⟨v, out.up, out.nx, out.W⟩ := by
  intro e w hs
  refine (h e w hs).mono fun en w' ⟨e', hen, hp⟩ => ⟨e', by rw [hen]; simp only [hv], ⟨hp.agree, hp.os, hp.tape, hp.output, hp.size, hp.fr, hp.sat, hp.own, hp.foot⟩⟩
noncomputable def lev0_O (v : Int × Int × List (List Ct)) : Out := ⟨.tup [.agg [.val false (.int .i64 v.1), .val false (.int .i64 v.2.1), .ext 49], .one (.val true (.int .i64 0))], [(49, .row ([[Sh.int IntKind.i64], [Sh.int IntKind.i64], [Sh.int IntKind.i64]].reverse.flatten) 58 v.2.2)], 51, []⟩
theorem levS_ok {x0_0 x0_1 : Int} {x0_2 x0_3 x0_4 x0_5 x0_6 x0_7 : List (List Ct)} {x1_0 x1_1 : Int} {x1_2 : List (List Ct)} {x2 : Int} (h : levB x0_0 x0_1 x0_2 x0_3 x0_4 x0_5 x0_6 x0_7 x1_0 x1_1 x1_2 x2 = true) : levS x0_0 x0_1 x0_2 x0_3 x0_4 x0_5 x0_6 x0_7 x1_0 x1_1 x1_2 x2 = (x1_0, x1_1, 0, levT x1_0 x1_1 x2 x0_3 x0_4 x0_6 x1_2) := by
  unfold levS; rw [h]; rfl
theorem lev0_tree {gT : List (List Ct)} {x0_0 x0_1 : Int} {x0_2 x0_3 x0_4 x0_5 x0_6 x0_7 : List (List Ct)} {x1_0 x1_1 : Int} {x1_2 : List (List Ct)} {x2 : Int} (h : (gtB gT && levB x0_0 x0_1 x0_2 x0_3 x0_4 x0_5 x0_6 x0_7 x1_0 x1_1 x1_2 x2) = true) : CallOk Tryd.prog 8 [.sv (.agg [.val false (.int .i64 x0_0), .val false (.int .i64 x0_1), .ext 2, .ext 3, .ext 4, .ext 5, .ext 6, .ext 7]), .sv (.agg [.val false (.int .i64 x1_0), .val false (.int .i64 x1_1), .ext 8]), .sv (.one (.val false (.int .i64 x2)))] [(0, .grid [.int .i64] gT), (1, .tie true 0 0), (2, .grid [.int .i64, .int .i64, .int .i64] x0_2), (3, .grid [.int .i64] x0_3), (4, .grid [.int .i64, .int .i64, .int .i64] x0_4), (5, .grid [.int .i64, .int .i64, .int .i64] x0_5), (6, .grid [.int .i64] x0_6), (7, .grid [.int .i64] x0_7), (8, .grid [.int .i64, .int .i64, .int .i64] x1_2)] 9 (lev0_O (x1_0, x1_1, levT x1_0 x1_1 x2 x0_3 x0_4 x0_6 x1_2)) := by
  have hg : gtB gT = true := (Bool.and_eq_true _ _ ▸ h).1
  have hb : levB x0_0 x0_1 x0_2 x0_3 x0_4 x0_5 x0_6 x0_7 x1_0 x1_1 x1_2 x2 = true := (Bool.and_eq_true _ _ ▸ h).2
  have k := @lev_tree gT x0_0 x0_1 x0_2 x0_3 x0_4 x0_5 x0_6 x0_7 x1_0 x1_1 x1_2 x2 _ (lev_some hg)
  rw [levS_ok hb] at k
  exact CallOk.val k (v := (lev0_O (x1_0, x1_1, levT x1_0 x1_1 x2 x0_3 x0_4 x0_6 x1_2)).v) (fun e => rfl)
noncomputable def lev0_con : Con Tryd.prog := conSG Tryd.prog 8 0 [.int .i64] lev_as (fun x => some (gtB (x.getD 0 (.i 0)).rows && levB (x.getD 1 (.i 0)).int (x.getD 2 (.i 0)).int (x.getD 3 (.i 0)).rows (x.getD 4 (.i 0)).rows (x.getD 5 (.i 0)).rows (x.getD 6 (.i 0)).rows (x.getD 7 (.i 0)).rows (x.getD 8 (.i 0)).rows (x.getD 9 (.i 0)).int (x.getD 10 (.i 0)).int (x.getD 11 (.i 0)).rows (x.getD 12 (.i 0)).int)) (fun x => lev0_O ((x.getD 9 (.i 0)).int, (x.getD 10 (.i 0)).int, levT (x.getD 9 (.i 0)).int (x.getD 10 (.i 0)).int (x.getD 12 (.i 0)).int (x.getD 4 (.i 0)).rows (x.getD 5 (.i 0)).rows (x.getD 7 (.i 0)).rows (x.getD 11 (.i 0)).rows))
  (fun x h => ⟨by kernel_rfl, by kernel_rfl, Eq.mp (by kernel_rfl) (lev0_tree (gT := (x.getD 0 (.i 0)).rows) (x0_0 := (x.getD 1 (.i 0)).int) (x0_1 := (x.getD 2 (.i 0)).int) (x0_2 := (x.getD 3 (.i 0)).rows) (x0_3 := (x.getD 4 (.i 0)).rows) (x0_4 := (x.getD 5 (.i 0)).rows) (x0_5 := (x.getD 6 (.i 0)).rows) (x0_6 := (x.getD 7 (.i 0)).rows) (x0_7 := (x.getD 8 (.i 0)).rows) (x1_0 := (x.getD 9 (.i 0)).int) (x1_1 := (x.getD 10 (.i 0)).int) (x1_2 := (x.getD 11 (.i 0)).rows) (x2 := (x.getD 12 (.i 0)).int) (h _ rfl))⟩)
noncomputable def consLcI : List (Con Tryd.prog) := [tfm_con.freezeR, lev0_con.freezeR.freezeO] ++ consLcE
end Go.Proofs.YtijidmcblpgfkaaDoor
