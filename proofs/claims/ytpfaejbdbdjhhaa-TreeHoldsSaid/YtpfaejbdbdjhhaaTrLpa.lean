/- Trees: the law's pairs, in plain numbers. No condition. -/
import Derived.Test.YtpfaejbdbdjhhaaEngTrG
import Derived.Test.YtpfaejbdbdjhhaaTrNum
import Derived.Test.YtpfaejbdbdjhhaaClosedA
set_option linter.unusedVariables false
set_option linter.unusedSimpArgs false
namespace Go.Proofs.Ytpfaejbdbdjhhaa
open Go.RowKit

/-- The law's pairs are its numbers'. -/
theorem lpa_is {x0 : List (List Ct)} (h1 : x0.length ≤ 1000) : lpa_res x0 = some (tab (fun k => [.i (rd x0 k 0).int, .i (rd x0 k 1).int, .i (rd x0 k 2).int, .i (rd x0 k 3).int, .i (rd x0 k 4).int, .i (rd x0 k 5).int, .i (rd x0 k 6).int, .i (rd x0 k 7).int, .i (rd x0 k 8).int, .i (rd x0 k 9).int, .i (rd x0 k 10).int, .i (rd x0 k 11).int]) x0.length) := by
  have it := iter_range (step := lpa_L0_step x0) (A := List (List Ct)) (fun k a => ((k : Int), a)) (fun k a => a.length = k) (f := fun k a => a ++ [[.i (rd x0 k 0).int, .i (rd x0 k 1).int, .i (rd x0 k 2).int, .i (rd x0 k 3).int, .i (rd x0 k 4).int, .i (rd x0 k 5).int, .i (rd x0 k 6).int, .i (rd x0 k 7).int, .i (rd x0 k 8).int, .i (rd x0 k 9).int, .i (rd x0 k 10).int, .i (rd x0 k 11).int]]) (out := fun a => ((x0.length : Int), a)) (n := x0.length) (m := x0.length + 1) (v := ((0 : Int), [])) (a0 := [])
    rfl (by omega)
    (fun k hk a ha => ⟨by
      have q1 : (k : Int) < (x0.length : Int) := by omega
      have q2 : (0 : Int) ≤ (k : Int) ∧ (k : Int) < (x0.length : Int) := ⟨by omega, q1⟩
      have q3 : a.length + (0 + 1) ≤ 9223372036854775807 ∧ (a.length + (0 + 1)) * 96 ≤ 140737488355328 := by omega
      simp only [lpa_L0_step, Int.toNat_natCast, List.length_cons, List.length_nil, cond_dec q1, cond_dec q2, cond_dec q3, wrap_in (n := (k : Int) + 1) (by omega) (by omega)]
      rfl, by simp [ha]⟩)
    (fun a _ => by
      simp only [lpa_L0_step]
      rw [cond_not (by omega)]) rfl
  rw [nfold_tab (g := fun k => [.i (rd x0 k 0).int, .i (rd x0 k 1).int, .i (rd x0 k 2).int, .i (rd x0 k 3).int, .i (rd x0 k 4).int, .i (rd x0 k 5).int, .i (rd x0 k 6).int, .i (rd x0 k 7).int, .i (rd x0 k 8).int, .i (rd x0 k 9).int, .i (rd x0 k 10).int, .i (rd x0 k 11).int]) (fun k a => rfl)] at it
  have hp : lpa_L0_p x0 = true := by unfold lpa_L0_p; rw [it]; rfl
  have hv : lpa_L0_v x0 = ((x0.length : Int), tab (fun k => [.i (rd x0 k 0).int, .i (rd x0 k 1).int, .i (rd x0 k 2).int, .i (rd x0 k 3).int, .i (rd x0 k 4).int, .i (rd x0 k 5).int, .i (rd x0 k 6).int, .i (rd x0 k 7).int, .i (rd x0 k 8).int, .i (rd x0 k 9).int, .i (rd x0 k 10).int, .i (rd x0 k 11).int]) x0.length) := by unfold lpa_L0_v loopRes; rw [it]; rfl
  simp only [lpa_res, hp, hv, cond_true]
theorem lpa_pr {x0 : List (List Ct)} : prI (tab (fun k => [.i (rd x0 k 0).int, .i (rd x0 k 1).int, .i (rd x0 k 2).int, .i (rd x0 k 3).int, .i (rd x0 k 4).int, .i (rd x0 k 5).int, .i (rd x0 k 6).int, .i (rd x0 k 7).int, .i (rd x0 k 8).int, .i (rd x0 k 9).int, .i (rd x0 k 10).int, .i (rd x0 k 11).int]) x0.length) = prI x0 := by
  funext i
  have key : ∀ j, j < 12 → (rd (tab (fun k => [.i (rd x0 k 0).int, .i (rd x0 k 1).int, .i (rd x0 k 2).int, .i (rd x0 k 3).int, .i (rd x0 k 4).int, .i (rd x0 k 5).int, .i (rd x0 k 6).int, .i (rd x0 k 7).int, .i (rd x0 k 8).int, .i (rd x0 k 9).int, .i (rd x0 k 10).int, .i (rd x0 k 11).int]) x0.length) i.toNat j).int = (rd x0 i.toNat j).int := by
    intro j hj
    by_cases hi : i.toNat < x0.length
    · rw [rd_tab hi]
      rcases j with _ | _ | _ | _ | _ | _ | _ | _ | _ | _ | _ | _ | j
      all_goals first | rfl | omega
    · have e1 : ∀ (m : List (List Ct)), ¬ i.toNat < m.length → (rd m i.toNat j) = .i 0 := fun m hm => by
        unfold rd
        rw [List.getD_eq_getElem?_getD (l := m), List.getElem?_eq_none (by omega)]
        rfl
      rw [e1 _ (by rw [tab_length]; exact hi), e1 _ hi]
  simp only [prI, key 0 (by omega), key 1 (by omega), key 2 (by omega), key 3 (by omega), key 4 (by omega), key 5 (by omega), key 6 (by omega), key 7 (by omega), key 8 (by omega), key 9 (by omega), key 10 (by omega), key 11 (by omega)]
theorem lpa_len (x0 : List (List Ct)) (h1 : x0.length ≤ 1000) : (lpa_v x0).length = x0.length ∧ prI (lpa_v x0) = prI x0 := by
  have h := lpa_is h1
  have hv : lpa_v x0 = (lpa_res x0).getD default := rfl
  rw [hv, h]
  exact ⟨tab_length _ _, lpa_pr⟩
noncomputable def cfgTreeN : Cfg Try.prog := ⟨conC Try.prog 5 (.bool true) awake13E :: [tdpd_con, rdpd_con] ++ consTr2, fun _ _ _ => none, fun _ => ⟨false, true⟩, noFacts, fun _ => 0⟩
end Go.Proofs.Ytpfaejbdbdjhhaa
