/- Scenes in plain numbers. No condition. -/
import Derived.Test.YtcpbiijegbbafaaEngScene6
import Derived.Test.YtcpbiijegbbafaaTrackR
set_option linter.unusedVariables false
set_option linter.unusedSimpArgs false
namespace Go.Proofs.Ytcpbiijegbbafaa
open Go.RowKit

def gK (x : List (List Ct)) (k : Nat) : List Ct := [.i (rd x k 0).int, .i (rd x k 1).int, .i (rd x k 2).int, .i (rd x k 3).int]
def cK (x : List (List Ct)) : List (List Ct) := tab (gK x) x.length
/-- Paints, cell by cell. -/
def gP (x : List (List Ct)) (k : Nat) : List Ct := [.i (rd x k 0).int, .i (rd x k 1).int, .i (rd x k 2).int, .i (rd x k 3).int, .i (rd x k 4).int]
def cP (x : List (List Ct)) : List (List Ct) := tab (gP x) x.length
/-- Joints, cell by cell. -/
def gJ (x : List (List Ct)) (k : Nat) : List Ct := [.i (rd x k 0).int, .i (rd x k 1).int, .i (rd x k 2).int, .i (rd x k 3).int]
def cJ (x : List (List Ct)) : List (List Ct) := tab (gJ x) x.length
/-- Shapes, cell by cell. -/
def gS (x : List (List Ct)) (k : Nat) : List Ct := [.i (rd x k 0).int, .i (rd x k 1).int, .i (rd x k 2).int, .i (rd x k 3).int, .i (rd x k 4).int, .i (rd x k 5).int, .i (rd x k 6).int, .i (rd x k 7).int, .i (rd x k 8).int, .i (rd x k 9).int, .i (rd x k 10).int, .i (rd x k 11).int, .i (rd x k 12).int]
def cS (x : List (List Ct)) : List (List Ct) := tab (gS x) x.length
/-- Tracks. -/
def gT (x : List (List Ct)) (k : Nat) : List Ct := [.i (rd x k 0).int, .l (cK (rd x k 1).rows)]
def cT (x : List (List Ct)) : List (List Ct) := tab (gT x) x.length
theorem cK_length {x : List (List Ct)} : (cK x).length = x.length := by simp [cK, tab_length]
theorem cP_length {x : List (List Ct)} : (cP x).length = x.length := by simp [cP, tab_length]
theorem cJ_length {x : List (List Ct)} : (cJ x).length = x.length := by simp [cJ, tab_length]
theorem cS_length {x : List (List Ct)} : (cS x).length = x.length := by simp [cS, tab_length]
theorem cT_length {x : List (List Ct)} : (cT x).length = x.length := by simp [cT, tab_length]
theorem cK_rd {x : List (List Ct)} {k : Nat} (h : k < x.length) : (rd (cK x) k 0).int = (rd x k 0).int ∧ (rd (cK x) k 1).int = (rd x k 1).int ∧ (rd (cK x) k 2).int = (rd x k 2).int ∧ (rd (cK x) k 3).int = (rd x k 3).int := by
  simp [cK, gK, rd_tab h, Ct.int]
theorem cK_twice {x : List (List Ct)} : cK (cK x) = cK x := by
  unfold cK tab
  simp only [List.length_map, List.length_range]
  apply List.map_congr_left
  intro k hk
  have h : k < x.length := by simpa using hk
  have := @cK_rd x k h
  simp only [cK, tab] at this
  simp only [gK, this]
theorem cP_rd {x : List (List Ct)} {k : Nat} (h : k < x.length) : (rd (cP x) k 0).int = (rd x k 0).int ∧ (rd (cP x) k 1).int = (rd x k 1).int ∧ (rd (cP x) k 2).int = (rd x k 2).int ∧ (rd (cP x) k 3).int = (rd x k 3).int ∧ (rd (cP x) k 4).int = (rd x k 4).int := by
  simp [cP, gP, rd_tab h, Ct.int]
theorem cP_twice {x : List (List Ct)} : cP (cP x) = cP x := by
  unfold cP tab
  simp only [List.length_map, List.length_range]
  apply List.map_congr_left
  intro k hk
  have h : k < x.length := by simpa using hk
  have := @cP_rd x k h
  simp only [cP, tab] at this
  simp only [gP, this]
theorem cJ_rd {x : List (List Ct)} {k : Nat} (h : k < x.length) : (rd (cJ x) k 0).int = (rd x k 0).int ∧ (rd (cJ x) k 1).int = (rd x k 1).int ∧ (rd (cJ x) k 2).int = (rd x k 2).int ∧ (rd (cJ x) k 3).int = (rd x k 3).int := by
  simp [cJ, gJ, rd_tab h, Ct.int]
theorem cJ_twice {x : List (List Ct)} : cJ (cJ x) = cJ x := by
  unfold cJ tab
  simp only [List.length_map, List.length_range]
  apply List.map_congr_left
  intro k hk
  have h : k < x.length := by simpa using hk
  have := @cJ_rd x k h
  simp only [cJ, tab] at this
  simp only [gJ, this]
theorem cS_rd {x : List (List Ct)} {k : Nat} (h : k < x.length) : (rd (cS x) k 0).int = (rd x k 0).int ∧ (rd (cS x) k 1).int = (rd x k 1).int ∧ (rd (cS x) k 2).int = (rd x k 2).int ∧ (rd (cS x) k 3).int = (rd x k 3).int ∧ (rd (cS x) k 4).int = (rd x k 4).int ∧ (rd (cS x) k 5).int = (rd x k 5).int ∧ (rd (cS x) k 6).int = (rd x k 6).int ∧ (rd (cS x) k 7).int = (rd x k 7).int ∧ (rd (cS x) k 8).int = (rd x k 8).int ∧ (rd (cS x) k 9).int = (rd x k 9).int ∧ (rd (cS x) k 10).int = (rd x k 10).int ∧ (rd (cS x) k 11).int = (rd x k 11).int ∧ (rd (cS x) k 12).int = (rd x k 12).int := by
  simp [cS, gS, rd_tab h, Ct.int]
theorem cS_twice {x : List (List Ct)} : cS (cS x) = cS x := by
  unfold cS tab
  simp only [List.length_map, List.length_range]
  apply List.map_congr_left
  intro k hk
  have h : k < x.length := by simpa using hk
  have := @cS_rd x k h
  simp only [cS, tab] at this
  simp only [gS, this]
theorem cT_rd {x : List (List Ct)} {k : Nat} (h : k < x.length) : (rd (cT x) k 0).int = (rd x k 0).int ∧ (rd (cT x) k 1).rows = cK (rd x k 1).rows := by
  simp [cT, gT, rd_tab h, Ct.rows, Ct.int]
theorem cT_twice {x : List (List Ct)} : cT (cT x) = cT x := by
  unfold cT tab
  simp only [List.length_map, List.length_range]
  apply List.map_congr_left
  intro k hk
  have h : k < x.length := by simpa using hk
  have := @cT_rd x k h
  simp only [cT, tab] at this
  simp only [gT, this, cK_twice]
structure SmallT (P T J S : List (List Ct)) : Prop where
  p : P.length ≤ 60
  t : T.length ≤ 60
  k : ∀ k, k < T.length → (rd T k 1).rows.length ≤ 40
  j : J.length ≤ 60
  s : S.length ≤ 200
theorem lsm_ok {P T J S : List (List Ct)} (hT : T.length ≤ 9223372036854775807) : ∃ b, lsm_res P T J S = some b ∧ lsm_v P T J S = b ∧ (b = true → SmallT P T J S) := by
  obtain ⟨r, h1, h2⟩ := iter_chk (step := lsm_L0_step T) (n := T.length) (m := T.length + 1) (c := fun k => (rd T k 1).rows.length ≤ 40) (fun k hk => by
    have q : (k : Int) < (T.length : Int) := by omega
    have q2 : (0 : Int) ≤ (k : Int) ∧ (k : Int) < (T.length : Int) := by omega
    constructor
    · intro h
      have q3 : ¬ ((rd T k 1).rows.length : Int) > 40 := by omega
      simp only [lsm_L0_step, cond_dec q, cond_dec q2, Int.toNat_natCast, cond_not q3, wrap_succ (k := k) (by omega)]
      rfl
    · intro h
      have q3 : ((rd T k 1).rows.length : Int) > 40 := by omega
      simp only [lsm_L0_step, cond_dec q, cond_dec q2, Int.toNat_natCast, cond_dec q3]) (by
    have q : ¬ ((T.length : Int) < (T.length : Int)) := by omega
    simp only [lsm_L0_step, cond_not q]) (by omega)
  have p1 : lsm_L0_p T = true := by unfold lsm_L0_p; rw [h1]; rfl
  have p2 : lsm_L0_v T = r := by unfold lsm_L0_v; rw [h1]; rfl
  have hr : lsm_res P T J S = some (isL r && (decide ((P.length : Int) ≤ 60) && (decide ((T.length : Int) ≤ 60) && (decide ((J.length : Int) ≤ 60) && decide ((S.length : Int) ≤ 200))))) := by
    unfold lsm_res
    rw [p1, p2]
    cases isL r <;> cases decide ((P.length : Int) ≤ 60) <;> cases decide ((T.length : Int) ≤ 60) <;> cases decide ((J.length : Int) ≤ 60) <;> rfl
  refine ⟨_, hr, by unfold lsm_v; rw [hr]; rfl, fun h => ?_⟩
  simp only [Bool.and_eq_true, decide_eq_true_eq] at h
  obtain ⟨h3, h4, h5, h6, h7⟩ := h
  exact ⟨by omega, by omega, h2.1 h3, by omega, by omega⟩
end Go.Proofs.Ytcpbiijegbbafaa
