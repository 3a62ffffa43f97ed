/- Tracks that may be. No condition. -/
import Derived.Test.YtmpaelkjooahoaaEngOrbit1
import Derived.Test.YtmpaelkjooahoaaLoopA
import Derived.Test.YtmpaelkjooahoaaLerp
import Derived.Test.YtmpaelkjooahoaaFilmLaw
set_option linter.unusedVariables false
set_option linter.unusedSimpArgs false
namespace Go.Proofs.Ytmpaelkjooahoaa
open Go.RowKit

/-- The same keys, cell by cell. -/
structure Same4 (y x : List (List Ct)) : Prop where
  len : y.length = x.length
  at' : ∀ i, i < x.length → ∀ j, j < 4 → (rd y i j).int = (rd x i j).int
/-- What a key must be; what a track must be. -/
structure OkKey (l : List (List Ct)) (i : Nat) : Prop where
  t0 : 0 ≤ (rd l i 0).int
  t1 : (rd l i 0).int ≤ 2097152
  up : 0 < i → (rd l (i - 1) 0).int < (rd l i 0).int
  v : ∀ j, 1 ≤ j → j < 4 → -2147483648 ≤ (rd l i j).int ∧ (rd l i j).int ≤ 2147483648
structure RightT (w : Int) (l : List (List Ct)) : Prop where
  w0 : 0 ≤ w
  w1 : w ≤ 2
  n0 : 1 ≤ l.length
  n1 : l.length ≤ 16
  ok : ∀ i, i < l.length → OkKey l i
theorem held_ne {x : Int} : (x != heldS x) = true ↔ ¬ (-2147483648 ≤ x ∧ x ≤ 2147483648) := by
  by_cases h : -2147483648 ≤ x ∧ x ≤ 2147483648
  · rw [heldS_id h.1 h.2]; simp [h.1, h.2]
  · refine ⟨fun _ => h, fun _ => ?_⟩
    unfold heldS
    split
    · simp; omega
    split
    · simp; omega
    · omega
theorem trt_step {l : List (List Ct)} {k : Nat} (hl : l.length ≤ 16) (hk : k < l.length) : (OkKey l k → trt_L0_step l (k : Int) = some (.inl ((k : Int) + 1))) ∧ (¬ OkKey l k → trt_L0_step l (k : Int) = some (.inr (.inr ()))) := by
  have q : (k : Int) < (l.length : Int) := by omega
  have q2 : (0 : Int) ≤ (k : Int) ∧ (k : Int) < (l.length : Int) := by omega
  have w1 : IntKind.i64.wrap ((k : Int) + 1) = (k : Int) + 1 := wrap_in (by omega) (by omega)
  have main : trt_L0_step l (k : Int) = some (.inl ((k : Int) + 1)) ∧ OkKey l k ∨ trt_L0_step l (k : Int) = some (.inr (.inr ())) ∧ ¬ OkKey l k := by
    by_cases c0 : (rd l k 0).int < 0
    · exact .inr ⟨by simp only [trt_L0_step, cond_dec q, cond_dec q2, Int.toNat_natCast, cond_dec c0], fun h => by have := h.t0; omega⟩
    by_cases c1 : (rd l k 0).int > 2097152
    · exact .inr ⟨by simp only [trt_L0_step, cond_dec q, cond_dec q2, Int.toNat_natCast, cond_not c0, cond_dec c1], fun h => by have := h.t1; omega⟩
    have vals : ((bif (decide ((rd l k 1).int < (-2147483648 : Int))) then (some (.inr (.inr ()))) else bif (decide ((rd l k 1).int > (2147483648 : Int))) then (some (.inr (.inr ()))) else bif (decide ((rd l k 2).int < (-2147483648 : Int))) then (some (.inr (.inr ()))) else bif (decide ((rd l k 2).int > (2147483648 : Int))) then (some (.inr (.inr ()))) else bif (decide ((rd l k 3).int < (-2147483648 : Int))) then (some (.inr (.inr ()))) else bif (decide ((rd l k 3).int > (2147483648 : Int))) then (some (.inr (.inr ()))) else some (.inl ((k : Int) + (1 : Int)))) = (some (.inl ((k : Int) + 1)) : Option (Int ⊕ (Int ⊕ Unit))) ∧ ∀ j, 1 ≤ j → j < 4 → -2147483648 ≤ (rd l k j).int ∧ (rd l k j).int ≤ 2147483648) ∨
        ((bif (decide ((rd l k 1).int < (-2147483648 : Int))) then (some (.inr (.inr ()))) else bif (decide ((rd l k 1).int > (2147483648 : Int))) then (some (.inr (.inr ()))) else bif (decide ((rd l k 2).int < (-2147483648 : Int))) then (some (.inr (.inr ()))) else bif (decide ((rd l k 2).int > (2147483648 : Int))) then (some (.inr (.inr ()))) else bif (decide ((rd l k 3).int < (-2147483648 : Int))) then (some (.inr (.inr ()))) else bif (decide ((rd l k 3).int > (2147483648 : Int))) then (some (.inr (.inr ()))) else some (.inl ((k : Int) + (1 : Int)))) = (some (.inr (.inr ())) : Option (Int ⊕ (Int ⊕ Unit))) ∧ ¬ ∀ j, 1 ≤ j → j < 4 → -2147483648 ≤ (rd l k j).int ∧ (rd l k j).int ≤ 2147483648) := by
      by_cases d1 : (rd l k 1).int < -2147483648
      · exact .inr ⟨by rw [cond_dec d1], fun h => by have := h 1 (by omega) (by omega); omega⟩
      by_cases d2 : (rd l k 1).int > 2147483648
      · exact .inr ⟨by rw [cond_not d1, cond_dec d2], fun h => by have := h 1 (by omega) (by omega); omega⟩
      by_cases d3 : (rd l k 2).int < -2147483648
      · exact .inr ⟨by rw [cond_not d1, cond_not d2, cond_dec d3], fun h => by have := h 2 (by omega) (by omega); omega⟩
      by_cases d4 : (rd l k 2).int > 2147483648
      · exact .inr ⟨by rw [cond_not d1, cond_not d2, cond_not d3, cond_dec d4], fun h => by have := h 2 (by omega) (by omega); omega⟩
      by_cases d5 : (rd l k 3).int < -2147483648
      · exact .inr ⟨by rw [cond_not d1, cond_not d2, cond_not d3, cond_not d4, cond_dec d5], fun h => by have := h 3 (by omega) (by omega); omega⟩
      by_cases d6 : (rd l k 3).int > 2147483648
      · exact .inr ⟨by rw [cond_not d1, cond_not d2, cond_not d3, cond_not d4, cond_not d5, cond_dec d6], fun h => by have := h 3 (by omega) (by omega); omega⟩
      refine .inl ⟨by rw [cond_not d1, cond_not d2, cond_not d3, cond_not d4, cond_not d5, cond_not d6], fun j h1 h2 => ?_⟩
      have c : j = 1 ∨ j = 2 ∨ j = 3 := by omega
      rcases c with rfl | rfl | rfl <;> omega
    by_cases hz : (k : Int) > 0
    · have w2 : IntKind.i64.wrap ((k : Int) - 1) = ((k - 1 : Nat) : Int) := by rw [wrap_in (by omega) (by omega)]; omega
      have q3 : (0 : Int) ≤ ((k - 1 : Nat) : Int) ∧ ((k - 1 : Nat) : Int) < (l.length : Int) := by omega
      by_cases c2 : (rd l (k - 1) 0).int ≥ (rd l k 0).int
      · exact .inr ⟨by simp only [trt_L0_step, cond_dec q, cond_dec q2, Int.toNat_natCast, cond_not c0, cond_not c1, cond_dec hz, w2, cond_dec q3, cond_dec c2], fun h => by have := h.up (by omega); omega⟩
      · rcases vals with ⟨h1, h2⟩ | ⟨h1, h2⟩
        · exact .inl ⟨by simp only [trt_L0_step, cond_dec q, cond_dec q2, Int.toNat_natCast, cond_not c0, cond_not c1, cond_dec hz, w2, cond_dec q3, cond_not c2, w1]; exact h1, ⟨by omega, by omega, fun _ => by omega, h2⟩⟩
        · exact .inr ⟨by simp only [trt_L0_step, cond_dec q, cond_dec q2, Int.toNat_natCast, cond_not c0, cond_not c1, cond_dec hz, w2, cond_dec q3, cond_not c2, w1]; exact h1, fun h => h2 h.v⟩
    · rcases vals with ⟨h1, h2⟩ | ⟨h1, h2⟩
      · exact .inl ⟨by simp only [trt_L0_step, cond_dec q, cond_dec q2, Int.toNat_natCast, cond_not c0, cond_not c1, cond_not hz, w1]; exact h1, ⟨by omega, by omega, fun _ => by omega, h2⟩⟩
      · exact .inr ⟨by simp only [trt_L0_step, cond_dec q, cond_dec q2, Int.toNat_natCast, cond_not c0, cond_not c1, cond_not hz, w1]; exact h1, fun h => h2 h.v⟩
  rcases main with ⟨h1, h2⟩ | ⟨h1, h2⟩
  · exact ⟨fun _ => h1, fun h => absurd h2 h⟩
  · exact ⟨fun h => absurd h h2, fun _ => h1⟩
theorem rrt_step {l : List (List Ct)} {k : Nat} (hl : l.length ≤ 16) (hk : k < l.length) : (OkKey l k → rrt_L0_step l (k : Int) = some (.inl ((k : Int) + 1))) ∧ (¬ OkKey l k → rrt_L0_step l (k : Int) = some (.inr (.inr ()))) := by
  have q : (k : Int) < (l.length : Int) := by omega
  have q2 : (0 : Int) ≤ (k : Int) ∧ (k : Int) < (l.length : Int) := by omega
  have w1 : IntKind.i64.wrap ((k : Int) + 1) = (k : Int) + 1 := wrap_in (by omega) (by omega)
  have main : rrt_L0_step l (k : Int) = some (.inl ((k : Int) + 1)) ∧ OkKey l k ∨ rrt_L0_step l (k : Int) = some (.inr (.inr ())) ∧ ¬ OkKey l k := by
    by_cases c0 : (rd l k 0).int < 0
    · exact .inr ⟨by simp only [rrt_L0_step, cond_dec q, cond_dec q2, Int.toNat_natCast, cond_dec c0], fun h => by have := h.t0; omega⟩
    by_cases c1 : (rd l k 0).int > 2097152
    · exact .inr ⟨by simp only [rrt_L0_step, cond_dec q, cond_dec q2, Int.toNat_natCast, cond_not c0, cond_dec c1], fun h => by have := h.t1; omega⟩
    have hb : ∀ {x : Int}, ¬ (x != heldS x) = true → (x != heldS x) = false := fun h => by simpa using h
    have vals : ((bif ((rd l k 1).int != heldS (rd l k 1).int) then (some (.inr (.inr ()))) else bif ((rd l k 2).int != heldS (rd l k 2).int) then (some (.inr (.inr ()))) else bif ((rd l k 3).int != heldS (rd l k 3).int) then (some (.inr (.inr ()))) else some (.inl ((k : Int) + (1 : Int)))) = (some (.inl ((k : Int) + 1)) : Option (Int ⊕ (Int ⊕ Unit))) ∧ ∀ j, 1 ≤ j → j < 4 → -2147483648 ≤ (rd l k j).int ∧ (rd l k j).int ≤ 2147483648) ∨
        ((bif ((rd l k 1).int != heldS (rd l k 1).int) then (some (.inr (.inr ()))) else bif ((rd l k 2).int != heldS (rd l k 2).int) then (some (.inr (.inr ()))) else bif ((rd l k 3).int != heldS (rd l k 3).int) then (some (.inr (.inr ()))) else some (.inl ((k : Int) + (1 : Int)))) = (some (.inr (.inr ())) : Option (Int ⊕ (Int ⊕ Unit))) ∧ ¬ ∀ j, 1 ≤ j → j < 4 → -2147483648 ≤ (rd l k j).int ∧ (rd l k j).int ≤ 2147483648) := by
      by_cases d1 : ((rd l k 1).int != heldS (rd l k 1).int) = true
      · exact .inr ⟨by rw [d1]; rfl, fun h => held_ne.1 d1 (h 1 (by omega) (by omega))⟩
      by_cases d2 : ((rd l k 2).int != heldS (rd l k 2).int) = true
      · exact .inr ⟨by rw [hb d1, d2]; rfl, fun h => held_ne.1 d2 (h 2 (by omega) (by omega))⟩
      by_cases d3 : ((rd l k 3).int != heldS (rd l k 3).int) = true
      · exact .inr ⟨by rw [hb d1, hb d2, d3]; rfl, fun h => held_ne.1 d3 (h 3 (by omega) (by omega))⟩
      refine .inl ⟨by rw [hb d1, hb d2, hb d3]; rfl, fun j h1 h2 => ?_⟩
      have c : j = 1 ∨ j = 2 ∨ j = 3 := by omega
      rcases c with rfl | rfl | rfl
      · exact Classical.byContradiction fun h => d1 (held_ne.2 h)
      · exact Classical.byContradiction fun h => d2 (held_ne.2 h)
      · exact Classical.byContradiction fun h => d3 (held_ne.2 h)
    by_cases hz : (k : Int) > 0
    · have w2 : IntKind.i64.wrap ((k : Int) - 1) = ((k - 1 : Nat) : Int) := by rw [wrap_in (by omega) (by omega)]; omega
      have q3 : (0 : Int) ≤ ((k - 1 : Nat) : Int) ∧ ((k - 1 : Nat) : Int) < (l.length : Int) := by omega
      by_cases c2 : (rd l k 0).int ≤ (rd l (k - 1) 0).int
      · exact .inr ⟨by simp only [rrt_L0_step, cond_dec q, cond_dec q2, Int.toNat_natCast, cond_not c0, cond_not c1, cond_dec hz, w2, cond_dec q3, cond_dec c2], fun h => by have := h.up (by omega); omega⟩
      · rcases vals with ⟨h1, h2⟩ | ⟨h1, h2⟩
        · exact .inl ⟨by simp only [rrt_L0_step, cond_dec q, cond_dec q2, Int.toNat_natCast, cond_not c0, cond_not c1, cond_dec hz, w2, cond_dec q3, cond_not c2, w1]; exact h1, ⟨by omega, by omega, fun _ => by omega, h2⟩⟩
        · exact .inr ⟨by simp only [rrt_L0_step, cond_dec q, cond_dec q2, Int.toNat_natCast, cond_not c0, cond_not c1, cond_dec hz, w2, cond_dec q3, cond_not c2, w1]; exact h1, fun h => h2 h.v⟩
    · rcases vals with ⟨h1, h2⟩ | ⟨h1, h2⟩
      · exact .inl ⟨by simp only [rrt_L0_step, cond_dec q, cond_dec q2, Int.toNat_natCast, cond_not c0, cond_not c1, cond_not hz, w1]; exact h1, ⟨by omega, by omega, fun _ => by omega, h2⟩⟩
      · exact .inr ⟨by simp only [rrt_L0_step, cond_dec q, cond_dec q2, Int.toNat_natCast, cond_not c0, cond_not c1, cond_not hz, w1]; exact h1, fun h => h2 h.v⟩
  rcases main with ⟨h1, h2⟩ | ⟨h1, h2⟩
  · exact ⟨fun _ => h1, fun h => absurd h2 h⟩
  · exact ⟨fun h => absurd h h2, fun _ => h1⟩
theorem right_of {w : Int} {l : List (List Ct)} {step : Int → Option (Int ⊕ (Int ⊕ Unit))} {res : Option Bool} {p : Bool} {v : Int ⊕ Unit} (hp : p = (iter step (l.length + 1) 0).isSome) (hv : v = (iter step (l.length + 1) 0).getD (.inl default))
    (hres : res = bif (decide (w < (0 : Int))) then (some false) else bif (decide (w > (2 : Int))) then (some false) else bif (decide ((↑l.length : Int) < (1 : Int))) then (some false) else bif (decide ((↑l.length : Int) > (16 : Int))) then (some false) else bif p then bif (isL v) then (some true) else some false else none)
    (hst : l.length ≤ 16 → ∀ k, k < l.length → (OkKey l k → step (k : Int) = some (.inl ((k : Int) + 1))) ∧ (¬ OkKey l k → step (k : Int) = some (.inr (.inr ())))) (hout : step (l.length : Int) = some (.inr (.inl (l.length : Int)))) :
    ∃ b, res = some b ∧ (b = true ↔ RightT w l) := by
  subst hres
  by_cases c0 : w < 0
  · exact ⟨false, by rw [cond_dec c0], by simp; intro h; have := h.w0; omega⟩
  by_cases c1 : w > 2
  · exact ⟨false, by rw [cond_not c0, cond_dec c1], by simp; intro h; have := h.w1; omega⟩
  by_cases c2 : (l.length : Int) < 1
  · exact ⟨false, by rw [cond_not c0, cond_not c1, cond_dec c2], by simp; intro h; have := h.n0; omega⟩
  by_cases c3 : (l.length : Int) > 16
  · exact ⟨false, by rw [cond_not c0, cond_not c1, cond_not c2, cond_dec c3], by simp; intro h; have := h.n1; omega⟩
  obtain ⟨r, h1, h2⟩ := iter_chk (step := step) (n := l.length) (m := l.length + 1) (c := fun k => OkKey l k) (hst (by omega)) hout (by omega)
  rw [h1] at hp hv
  subst hp
  subst hv
  refine ⟨isL v, ?_, ?_⟩
  · rw [cond_not c0, cond_not c1, cond_not c2, cond_not c3]
    show (bif isL v then some true else some false) = some (isL v)
    cases isL v <;> rfl
  · rw [h2]
    exact ⟨fun h => ⟨by omega, by omega, by omega, by omega, h⟩, fun h => h.ok⟩
theorem trt_is {w : Int} {l : List (List Ct)} : ∃ b, (trt_res w l = some b ∧ trt_v w l = b) ∧ (b = true ↔ RightT w l) := by
  obtain ⟨b, h1, h2⟩ := right_of (w := w) (l := l) (step := trt_L0_step l) (res := trt_res w l) rfl rfl rfl (fun hl k hk => trt_step hl hk) (by
    have q : ¬ ((l.length : Int) < (l.length : Int)) := by omega
    simp only [trt_L0_step, cond_not q])
  exact ⟨b, ⟨h1, by unfold trt_v; rw [h1]; rfl⟩, h2⟩
theorem rrt_is {w : Int} {l : List (List Ct)} : ∃ b, (rrt_res w l = some b ∧ rrt_v w l = b) ∧ (b = true ↔ RightT w l) := by
  obtain ⟨b, h1, h2⟩ := right_of (w := w) (l := l) (step := rrt_L0_step l) (res := rrt_res w l) rfl rfl rfl (fun hl k hk => rrt_step hl hk) (by
    have q : ¬ ((l.length : Int) < (l.length : Int)) := by omega
    simp only [rrt_L0_step, cond_not q])
  exact ⟨b, ⟨h1, by unfold rrt_v; rw [h1]; rfl⟩, h2⟩
theorem RightT.same {w : Int} {y x : List (List Ct)} (h : Same4 y x) : RightT w y ↔ RightT w x := by
  have key : ∀ i, i < x.length → (OkKey y i ↔ OkKey x i) := fun i hi => by
    have e0 := h.at' i hi 0 (by omega)
    constructor
    · intro k
      exact ⟨by rw [← e0]; exact k.t0, by rw [← e0]; exact k.t1, fun hz => by rw [← e0, ← h.at' (i - 1) (by omega) 0 (by omega)]; exact k.up hz, fun j h1 h2 => by rw [← h.at' i hi j h2]; exact k.v j h1 h2⟩
    · intro k
      exact ⟨by rw [e0]; exact k.t0, by rw [e0]; exact k.t1, fun hz => by rw [e0, h.at' (i - 1) (by omega) 0 (by omega)]; exact k.up hz, fun j h1 h2 => by rw [h.at' i hi j h2]; exact k.v j h1 h2⟩
  constructor
  · intro k; exact ⟨k.w0, k.w1, by rw [← h.len]; exact k.n0, by rw [← h.len]; exact k.n1, fun i hi => (key i hi).1 (k.ok i (by rw [h.len]; exact hi))⟩
  · intro k; exact ⟨k.w0, k.w1, by rw [h.len]; exact k.n0, by rw [h.len]; exact k.n1, fun i hi => (key i (by rw [← h.len]; exact hi)).2 (k.ok i (by rw [← h.len]; exact hi))⟩
end Go.Proofs.Ytmpaelkjooahoaa
