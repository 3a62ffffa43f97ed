/- All levels, plainly: both ways. No condition. -/
import Derived.Test.YtijidmcblpgfkaaDoorEngLcB
set_option linter.unusedVariables false
set_option linter.unusedSimpArgs false
namespace Go.Proofs.YtijidmcblpgfkaaDoor
open Go.RowKit

noncomputable def smoF (x0_0 x0_1 : Int) (x0_2 x0_3 x0_4 x0_5 x0_6 x0_7 : List (List Ct)) (k : Nat) (a : Int × Int × List (List Ct)) : (Int × Int × List (List Ct)) ⊕ ((Int × Int × Int × List (List Ct)) ⊕ Int) :=
  if (levS x0_0 x0_1 x0_2 x0_3 x0_4 x0_5 x0_6 x0_7 a.1 a.2.1 a.2.2 k).2.2.1 = 0 then .inl ((levS x0_0 x0_1 x0_2 x0_3 x0_4 x0_5 x0_6 x0_7 a.1 a.2.1 a.2.2 k).1, (levS x0_0 x0_1 x0_2 x0_3 x0_4 x0_5 x0_6 x0_7 a.1 a.2.1 a.2.2 k).2.1, (levS x0_0 x0_1 x0_2 x0_3 x0_4 x0_5 x0_6 x0_7 a.1 a.2.1 a.2.2 k).2.2.2)
  else .inr (.inr (levS x0_0 x0_1 x0_2 x0_3 x0_4 x0_5 x0_6 x0_7 a.1 a.2.1 a.2.2 k).2.2.1)
noncomputable def smoR (x0_0 x0_1 : Int) (x0_2 x0_3 x0_4 x0_5 x0_6 x0_7 : List (List Ct)) (x1_0 x1_1 : Int) (x1_2 : List (List Ct)) : (Int × Int × Int × List (List Ct)) ⊕ Int :=
  rounds (smoF x0_0 x0_1 x0_2 x0_3 x0_4 x0_5 x0_6 x0_7) (fun a => .inl (5, a.1, a.2.1, a.2.2)) 5 0 (x1_0, x1_1, x1_2)
noncomputable def smoS (x0_0 x0_1 : Int) (x0_2 x0_3 x0_4 x0_5 x0_6 x0_7 : List (List Ct)) (x1_0 x1_1 : Int) (x1_2 : List (List Ct)) : Int × Int × Int × List (List Ct) :=
  match smoR x0_0 x0_1 x0_2 x0_3 x0_4 x0_5 x0_6 x0_7 x1_0 x1_1 x1_2 with
  | .inl v => (v.2.1, v.2.2.1, 0, v.2.2.2)
  | .inr e => (0, 0, e, [])
theorem smo_iter {step : (Int × Int × Int × List (List Ct)) → Option ((Int × Int × Int × List (List Ct)) ⊕ ((Int × Int × Int × List (List Ct)) ⊕ Int))} {x0_0 x0_1 : Int} {x0_2 x0_3 x0_4 x0_5 x0_6 x0_7 : List (List Ct)}
    (hin : ∀ (k : Nat) (w h : Int) (l : List (List Ct)), k < 5 → step ((k : Int), w, h, l) = (bif ((levS x0_0 x0_1 x0_2 x0_3 x0_4 x0_5 x0_6 x0_7 w h l k).2.2.1 != (0 : Int)) then (some (.inr (.inr (levS x0_0 x0_1 x0_2 x0_3 x0_4 x0_5 x0_6 x0_7 w h l k).2.2.1))) else some (.inl (((k + 1 : Nat) : Int), (levS x0_0 x0_1 x0_2 x0_3 x0_4 x0_5 x0_6 x0_7 w h l k).1, (levS x0_0 x0_1 x0_2 x0_3 x0_4 x0_5 x0_6 x0_7 w h l k).2.1, (levS x0_0 x0_1 x0_2 x0_3 x0_4 x0_5 x0_6 x0_7 w h l k).2.2.2))))
    (hout : ∀ (w h : Int) (l : List (List Ct)), step (5, w, h, l) = some (.inr (.inl (5, w, h, l)))) (x1_0 x1_1 : Int) (x1_2 : List (List Ct)) : iter step 6 (0, x1_0, x1_1, x1_2) = some (smoR x0_0 x0_1 x0_2 x0_3 x0_4 x0_5 x0_6 x0_7 x1_0 x1_1 x1_2) := by
  have := iter_rounds (step := step) (A := Int × Int × List (List Ct)) (fun k a => ((k : Int), a.1, a.2.1, a.2.2)) (fun _ _ => True) (f := smoF x0_0 x0_1 x0_2 x0_3 x0_4 x0_5 x0_6 x0_7) (out := fun a => .inl (5, a.1, a.2.1, a.2.2)) (n := 5)
    (fun k hk a _ => by
      have h := hin k a.1 a.2.1 a.2.2 hk
      constructor
      · intro a' ha'
        unfold smoF at ha'
        split at ha'
        · rename_i hz
          have hz' : ((levS x0_0 x0_1 x0_2 x0_3 x0_4 x0_5 x0_6 x0_7 a.1 a.2.1 a.2.2 k).2.2.1 != (0 : Int)) = false := by simp [hz]
          cases ha'
          rw [h, hz']
          exact ⟨rfl, trivial⟩
        · cases ha'
      · intro r hr
        unfold smoF at hr
        split at hr
        · cases hr
        · rename_i hz
          have hz' : ((levS x0_0 x0_1 x0_2 x0_3 x0_4 x0_5 x0_6 x0_7 a.1 a.2.1 a.2.2 k).2.2.1 != (0 : Int)) = true := by simp [hz]
          cases hr
          rw [h, hz']
          rfl) (fun a _ => hout a.1 a.2.1 a.2.2) 5 0 6 (x1_0, x1_1, x1_2) rfl (by omega) trivial
  exact this
theorem smo_some {g : List (List Ct)} {x0_0 x0_1 : Int} {x0_2 x0_3 x0_4 x0_5 x0_6 x0_7 : List (List Ct)} {x1_0 x1_1 : Int} {x1_2 : List (List Ct)} (hg : gtB g = true) : smo_res g x0_0 x0_1 x0_2 x0_3 x0_4 x0_5 x0_6 x0_7 x1_0 x1_1 x1_2 = some (smoS x0_0 x0_1 x0_2 x0_3 x0_4 x0_5 x0_6 x0_7 x1_0 x1_1 x1_2) := by
  have h := smo_iter (step := smo_L0_step g x0_0 x0_1 x0_2 x0_3 x0_4 x0_5 x0_6 x0_7) (x0_0 := x0_0) (x0_1 := x0_1) (x0_2 := x0_2) (x0_3 := x0_3) (x0_4 := x0_4) (x0_5 := x0_5) (x0_6 := x0_6) (x0_7 := x0_7)
    (fun k w h l hk => by
      have q : decide ((k : Int) < 5) = true := decide_eq_true (by omega)
      have w' := wrap_succ (k := k) (by omega)
      have v : lev_v g x0_0 x0_1 x0_2 x0_3 x0_4 x0_5 x0_6 x0_7 w h l k = levS x0_0 x0_1 x0_2 x0_3 x0_4 x0_5 x0_6 x0_7 w h l k := rfl
      simp only [smo_L0_step, q, hg, w', v, cond_true]) (fun w h l => by simp [smo_L0_step]) x1_0 x1_1 x1_2
  have hp : smo_L0_p g x0_0 x0_1 x0_2 x0_3 x0_4 x0_5 x0_6 x0_7 x1_0 x1_1 x1_2 = true := by unfold smo_L0_p; rw [h]; rfl
  have hv : smo_L0_v g x0_0 x0_1 x0_2 x0_3 x0_4 x0_5 x0_6 x0_7 x1_0 x1_1 x1_2 = smoR x0_0 x0_1 x0_2 x0_3 x0_4 x0_5 x0_6 x0_7 x1_0 x1_1 x1_2 := by unfold smo_L0_v; rw [h]; rfl
  unfold smo_res smoS
  rw [hp, hv]
  cases smoR x0_0 x0_1 x0_2 x0_3 x0_4 x0_5 x0_6 x0_7 x1_0 x1_1 x1_2 <;> rfl
theorem rsm_some {x0_0 x0_1 : Int} {x0_2 x0_3 x0_4 x0_5 x0_6 x0_7 : List (List Ct)} {x1_0 x1_1 : Int} {x1_2 : List (List Ct)} : rsm_res x0_0 x0_1 x0_2 x0_3 x0_4 x0_5 x0_6 x0_7 x1_0 x1_1 x1_2 = some (smoS x0_0 x0_1 x0_2 x0_3 x0_4 x0_5 x0_6 x0_7 x1_0 x1_1 x1_2) := by
  have h := smo_iter (step := rsm_L0_step x0_0 x0_1 x0_2 x0_3 x0_4 x0_5 x0_6 x0_7) (x0_0 := x0_0) (x0_1 := x0_1) (x0_2 := x0_2) (x0_3 := x0_3) (x0_4 := x0_4) (x0_5 := x0_5) (x0_6 := x0_6) (x0_7 := x0_7)
    (fun k w h l hk => by
      have q : decide ((k : Int) < 5) = true := decide_eq_true (by omega)
      have w' := wrap_succ (k := k) (by omega)
      have v : rle_v x0_0 x0_1 x0_2 x0_3 x0_4 x0_5 x0_6 x0_7 w h l k = levS x0_0 x0_1 x0_2 x0_3 x0_4 x0_5 x0_6 x0_7 w h l k := rfl
      simp only [rsm_L0_step, q, w', v, cond_true]) (fun w h l => by simp [rsm_L0_step]) x1_0 x1_1 x1_2
  have hp : rsm_L0_p x0_0 x0_1 x0_2 x0_3 x0_4 x0_5 x0_6 x0_7 x1_0 x1_1 x1_2 = true := by unfold rsm_L0_p; rw [h]; rfl
  have hv : rsm_L0_v x0_0 x0_1 x0_2 x0_3 x0_4 x0_5 x0_6 x0_7 x1_0 x1_1 x1_2 = smoR x0_0 x0_1 x0_2 x0_3 x0_4 x0_5 x0_6 x0_7 x1_0 x1_1 x1_2 := by unfold rsm_L0_v; rw [h]; rfl
  unfold rsm_res smoS
  rw [hp, hv]
  cases smoR x0_0 x0_1 x0_2 x0_3 x0_4 x0_5 x0_6 x0_7 x1_0 x1_1 x1_2 <;> rfl
end Go.Proofs.YtijidmcblpgfkaaDoor
