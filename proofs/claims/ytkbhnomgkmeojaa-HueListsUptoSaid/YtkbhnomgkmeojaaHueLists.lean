/- The law HueLists: it answers true for all values, where the list is no longer than 1048576. No other condition. -/
import Derived.Test.YtkbhnomgkmeojaaHueListsT
set_option linter.unusedVariables false
set_option linter.unusedSimpArgs false
namespace Go.Proofs.Ytkbhnomgkmeojaa
open Go.RowKit

theorem lhl_fold (x0 : List (List Ct)) (x1 : Int) : ∀ n, nfold (lhl_L0_F x0 x1) n (0, 0, 0, []) = ((nfold (hsum_L0_F x0) n (0, 0, 0)).1, (nfold (hsum_L0_F x0) n (0, 0, 0)).2.1, (nfold (hsum_L0_F x0) n (0, 0, 0)).2.2, tab (fun k => [.i (rd x0 k 0).int, .i (rd x0 k 1).int, .i (rd x0 k 2).int]) n) := by
  intro n
  induction n with
  | zero => rfl
  | succ n ih =>
    simp only [nfold, ih, lhl_L0_F, hsum_L0_F, qadd_v, hadd_v, hto_v, ← tab_succ]
theorem lhl_true (x0 : List (List Ct)) (x1 : Int) (hb : x0.length ≤ 1048576) : lhl_res x0 x1 = some true := by
  obtain ⟨hp, hv⟩ := lhl_L0_done x0 x1 (by omega) hb
  have hs : hsum_v (tab (fun k => [.i (rd x0 k 0).int, .i (rd x0 k 1).int, .i (rd x0 k 2).int]) x0.length) = nfold (hsum_L0_F x0) x0.length (0, 0, 0) := by
    unfold hsum_v
    rw [tab_length]
    refine nfold_congr (fun k hk a => ?_) _
    simp [hsum_L0_F, rd_tab hk, Ct.int]
  rw [lhl_fold] at hv
  have hl : x0.length ≤ 9223372036854775000 := by omega
  simp [lhl_res, hp, hv, tab_length, hs, hl, hfrom_v, hmean_v, qmean_v]
theorem lhl_call (x0 : List (List Ct)) (x1 : Int) (hb : x0.length ≤ 1048576) : CallOk Try.prog 3 [.sv (.one (.ext 0)), .sv (.one (.val false (.int .i64 x1)))] [(0, .grid [.int .i64, .int .i64, .int .i64] x0)] 1 (lhl_O true) :=
  lhl_tree (lhl_true x0 x1 hb)
end Go.Proofs.Ytkbhnomgkmeojaa
