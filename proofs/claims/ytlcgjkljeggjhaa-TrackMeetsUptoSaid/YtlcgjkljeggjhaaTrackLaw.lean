/- Tracks in plain numbers. No condition. -/
import Derived.Test.YtlcgjkljeggjhaaEngTrack3
import Derived.Test.YtlcgjkljeggjhaaCol
import Derived.Test.YtlcgjkljeggjhaaFilmLaw
import Derived.Test.YtlcgjkljeggjhaaLerp
set_option linter.unusedVariables false
set_option linter.unusedSimpArgs false
namespace Go.Proofs.Ytlcgjkljeggjhaa
open Go.RowKit

/-- The same keys, cell by cell. -/
structure Same4 (y x : List (List Ct)) : Prop where
  len : y.length = x.length
  at' : ∀ i, i < x.length → ∀ j, j < 4 → (rd y i j).int = (rd x i j).int
theorem tky_it {x : List (List Ct)} (hb : x.length ≤ 1048576) : ∀ (d k : Nat) (vl : List (List Ct)), k + d = x.length → vl.length = k → (∀ i, i < k → ∀ j, j < 4 → (rd vl i j).int = (rd x i j).int) →
    ∃ c y, iter (tky_L0_step x) (d + 1) ((k : Int), vl) = some (c, y) ∧ Same4 y x := by
  intro d
  induction d with
  | zero =>
    intro k vl hk hl h
    have q : ¬ ((k : Int) < (x.length : Int)) := by omega
    exact ⟨(k : Int), vl, iter_inr (by simp only [tky_L0_step, cond_not q]), ⟨by omega, fun i hi => h i (by omega)⟩⟩
  | succ d ih =>
    intro k vl hk hl h
    have q : ((k : Int) < (x.length : Int)) := by omega
    have q2 : ((0 : Int) ≤ (k : Int) ∧ (k : Int) < (x.length : Int)) := by omega
    have w : IntKind.i64.wrap ((k : Int) + 1) = ((k + 1 : Nat) : Int) := by rw [wrap_in (by omega) (by omega)]; omega
    have hst : tky_L0_step x ((k : Int), vl) = some (.inl (((k + 1 : Nat) : Int), vl ++ [[Ct.i (rd x k 0).int, Ct.i (rd x k 1).int, Ct.i (rd x k 2).int, Ct.i (rd x k 3).int]])) := by
      simp only [tky_L0_step, cond_dec q, cond_dec q2, w, Int.toNat_natCast]
      rw [cond_dec]
      simp only [List.length_cons, List.length_nil]; omega
    rw [iter_inl hst]
    refine ih (k + 1) _ (by omega) (by simp [hl]) (fun i hi j hj => ?_)
    by_cases hik : i < k
    · rw [rd_app_left (by omega)]; exact h i hik j hj
    · obtain rfl : i = k := by omega
      rw [rd_app_last hl.symm]
      have c : j = 0 ∨ j = 1 ∨ j = 2 ∨ j = 3 := by omega
      rcases c with rfl | rfl | rfl | rfl <;> rfl
theorem tky_is {x : List (List Ct)} (hb : x.length ≤ 1048576) : (tky_res x).isSome = true ∧ Same4 (tky_v x) x := by
  obtain ⟨c, y, h1, h2⟩ := tky_it hb x.length 0 [] (by omega) rfl (fun i hi => by omega)
  rw [show ((0 : Nat) : Int) = 0 from rfl] at h1
  have p1 : tky_L0_p x = true := by unfold tky_L0_p; rw [h1]; rfl
  have hr : tky_res x = some y := by unfold tky_res tky_L0_v loopRes; rw [p1, h1]; rfl
  exact ⟨by rw [hr]; rfl, by unfold tky_v; rw [hr]; exact h2⟩

/-- What a key must be; what a track must be. -/
structure OkKey (l : List (List Ct)) (i : Nat) : Prop where
  t0 : 0 ≤ (rd l i 0).int
  t1 : (rd l i 0).int ≤ 2097152
  up : 0 < i → (rd l (i - 1) 0).int < (rd l i 0).int
  v : ∀ j, 1 ≤ j → j < 4 → -2147483648 ≤ (rd l i j).int ∧ (rd l i j).int ≤ 2147483648
structure RightT (w : Int) (l : List (List Ct)) : Prop where
  w0 : 0 ≤ w
  w1 : w ≤ 2
  n0 : 1 ≤ l.length
  n1 : l.length ≤ 16
  ok : ∀ i, i < l.length → OkKey l i
theorem held_ne {x : Int} : (x != heldS x) = true ↔ ¬ (-2147483648 ≤ x ∧ x ≤ 2147483648) := by
  by_cases h : -2147483648 ≤ x ∧ x ≤ 2147483648
  · rw [heldS_id h.1 h.2]; simp [h.1, h.2]
  · refine ⟨fun _ => h, fun _ => ?_⟩
    unfold heldS
    split
    · simp; omega
    split
    · simp; omega
    · omega
theorem trt_step {w : Int} {l : List (List Ct)} {k : Nat} (hl : l.length ≤ 16) (hk : k < l.length) : (OkKey l k → trt_L0_step w l (k : Int) = some (.inl ((k : Int) + 1))) ∧ (¬ OkKey l k → trt_L0_step w l (k : Int) = some (.inr (.inr ()))) := by
  have q : (k : Int) < (l.length : Int) := by omega
  have q2 : (0 : Int) ≤ (k : Int) ∧ (k : Int) < (l.length : Int) := by omega
  have w1 : IntKind.i64.wrap ((k : Int) + 1) = (k : Int) + 1 := wrap_in (by omega) (by omega)
  have main : trt_L0_step w l (k : Int) = some (.inl ((k : Int) + 1)) ∧ OkKey l k ∨ trt_L0_step w l (k : Int) = some (.inr (.inr ())) ∧ ¬ OkKey l k := by
    by_cases c0 : (rd l k 0).int < 0
    · exact .inr ⟨by simp only [trt_L0_step, cond_dec q, cond_dec q2, Int.toNat_natCast, cond_dec c0], fun h => by have := h.t0; omega⟩
    by_cases c1 : (rd l k 0).int > 2097152
    · exact .inr ⟨by simp only [trt_L0_step, cond_dec q, cond_dec q2, Int.toNat_natCast, cond_not c0, cond_dec c1], fun h => by have := h.t1; omega⟩
    have vals : ((bif (decide ((rd l k 1).int < (-2147483648 : Int))) then (some (.inr (.inr ()))) else bif (decide ((rd l k 1).int > (2147483648 : Int))) then (some (.inr (.inr ()))) else bif (decide ((rd l k 2).int < (-2147483648 : Int))) then (some (.inr (.inr ()))) else bif (decide ((rd l k 2).int > (2147483648 : Int))) then (some (.inr (.inr ()))) else bif (decide ((rd l k 3).int < (-2147483648 : Int))) then (some (.inr (.inr ()))) else bif (decide ((rd l k 3).int > (2147483648 : Int))) then (some (.inr (.inr ()))) else some (.inl ((k : Int) + (1 : Int)))) = (some (.inl ((k : Int) + 1)) : Option (Int ⊕ (Int ⊕ Unit))) ∧ ∀ j, 1 ≤ j → j < 4 → -2147483648 ≤ (rd l k j).int ∧ (rd l k j).int ≤ 2147483648) ∨
        ((bif (decide ((rd l k 1).int < (-2147483648 : Int))) then (some (.inr (.inr ()))) else bif (decide ((rd l k 1).int > (2147483648 : Int))) then (some (.inr (.inr ()))) else bif (decide ((rd l k 2).int < (-2147483648 : Int))) then (some (.inr (.inr ()))) else bif (decide ((rd l k 2).int > (2147483648 : Int))) then (some (.inr (.inr ()))) else bif (decide ((rd l k 3).int < (-2147483648 : Int))) then (some (.inr (.inr ()))) else bif (decide ((rd l k 3).int > (2147483648 : Int))) then (some (.inr (.inr ()))) else some (.inl ((k : Int) + (1 : Int)))) = (some (.inr (.inr ())) : Option (Int ⊕ (Int ⊕ Unit))) ∧ ¬ ∀ j, 1 ≤ j → j < 4 → -2147483648 ≤ (rd l k j).int ∧ (rd l k j).int ≤ 2147483648) := by
      by_cases d1 : (rd l k 1).int < -2147483648
      · exact .inr ⟨by rw [cond_dec d1], fun h => by have := h 1 (by omega) (by omega); omega⟩
      by_cases d2 : (rd l k 1).int > 2147483648
      · exact .inr ⟨by rw [cond_not d1, cond_dec d2], fun h => by have := h 1 (by omega) (by omega); omega⟩
      by_cases d3 : (rd l k 2).int < -2147483648
      · exact .inr ⟨by rw [cond_not d1, cond_not d2, cond_dec d3], fun h => by have := h 2 (by omega) (by omega); omega⟩
      by_cases d4 : (rd l k 2).int > 2147483648
      · exact .inr ⟨by rw [cond_not d1, cond_not d2, cond_not d3, cond_dec d4], fun h => by have := h 2 (by omega) (by omega); omega⟩
      by_cases d5 : (rd l k 3).int < -2147483648
      · exact .inr ⟨by rw [cond_not d1, cond_not d2, cond_not d3, cond_not d4, cond_dec d5], fun h => by have := h 3 (by omega) (by omega); omega⟩
      by_cases d6 : (rd l k 3).int > 2147483648
      · exact .inr ⟨by rw [cond_not d1, cond_not d2, cond_not d3, cond_not d4, cond_not d5, cond_dec d6], fun h => by have := h 3 (by omega) (by omega); omega⟩
      refine .inl ⟨by rw [cond_not d1, cond_not d2, cond_not d3, cond_not d4, cond_not d5, cond_not d6], fun j h1 h2 => ?_⟩
      have c : j = 1 ∨ j = 2 ∨ j = 3 := by omega
      rcases c with rfl | rfl | rfl <;> omega
    by_cases hz : (k : Int) > 0
    · have w2 : IntKind.i64.wrap ((k : Int) - 1) = ((k - 1 : Nat) : Int) := by rw [wrap_in (by omega) (by omega)]; omega
      have q3 : (0 : Int) ≤ ((k - 1 : Nat) : Int) ∧ ((k - 1 : Nat) : Int) < (l.length : Int) := by omega
      by_cases c2 : (rd l (k - 1) 0).int ≥ (rd l k 0).int
      · exact .inr ⟨by simp only [trt_L0_step, cond_dec q, cond_dec q2, Int.toNat_natCast, cond_not c0, cond_not c1, cond_dec hz, w2, cond_dec q3, cond_dec c2], fun h => by have := h.up (by omega); omega⟩
      · rcases vals with ⟨h1, h2⟩ | ⟨h1, h2⟩
        · exact .inl ⟨by simp only [trt_L0_step, cond_dec q, cond_dec q2, Int.toNat_natCast, cond_not c0, cond_not c1, cond_dec hz, w2, cond_dec q3, cond_not c2, w1]; exact h1, ⟨by omega, by omega, fun _ => by omega, h2⟩⟩
        · exact .inr ⟨by simp only [trt_L0_step, cond_dec q, cond_dec q2, Int.toNat_natCast, cond_not c0, cond_not c1, cond_dec hz, w2, cond_dec q3, cond_not c2, w1]; exact h1, fun h => h2 h.v⟩
    · rcases vals with ⟨h1, h2⟩ | ⟨h1, h2⟩
      · exact .inl ⟨by simp only [trt_L0_step, cond_dec q, cond_dec q2, Int.toNat_natCast, cond_not c0, cond_not c1, cond_not hz, w1]; exact h1, ⟨by omega, by omega, fun _ => by omega, h2⟩⟩
      · exact .inr ⟨by simp only [trt_L0_step, cond_dec q, cond_dec q2, Int.toNat_natCast, cond_not c0, cond_not c1, cond_not hz, w1]; exact h1, fun h => h2 h.v⟩
  rcases main with ⟨h1, h2⟩ | ⟨h1, h2⟩
  · exact ⟨fun _ => h1, fun h => absurd h2 h⟩
  · exact ⟨fun h => absurd h h2, fun _ => h1⟩
theorem rrt_step {w : Int} {l : List (List Ct)} {k : Nat} (hl : l.length ≤ 16) (hk : k < l.length) : (OkKey l k → rrt_L0_step w l (k : Int) = some (.inl ((k : Int) + 1))) ∧ (¬ OkKey l k → rrt_L0_step w l (k : Int) = some (.inr (.inr ()))) := by
  have q : (k : Int) < (l.length : Int) := by omega
  have q2 : (0 : Int) ≤ (k : Int) ∧ (k : Int) < (l.length : Int) := by omega
  have w1 : IntKind.i64.wrap ((k : Int) + 1) = (k : Int) + 1 := wrap_in (by omega) (by omega)
  have main : rrt_L0_step w l (k : Int) = some (.inl ((k : Int) + 1)) ∧ OkKey l k ∨ rrt_L0_step w l (k : Int) = some (.inr (.inr ())) ∧ ¬ OkKey l k := by
    by_cases c0 : (rd l k 0).int < 0
    · exact .inr ⟨by simp only [rrt_L0_step, cond_dec q, cond_dec q2, Int.toNat_natCast, cond_dec c0], fun h => by have := h.t0; omega⟩
    by_cases c1 : (rd l k 0).int > 2097152
    · exact .inr ⟨by simp only [rrt_L0_step, cond_dec q, cond_dec q2, Int.toNat_natCast, cond_not c0, cond_dec c1], fun h => by have := h.t1; omega⟩
    have hb : ∀ {x : Int}, ¬ (x != heldS x) = true → (x != heldS x) = false := fun h => by simpa using h
    have vals : ((bif ((rd l k 1).int != heldS (rd l k 1).int) then (some (.inr (.inr ()))) else bif ((rd l k 2).int != heldS (rd l k 2).int) then (some (.inr (.inr ()))) else bif ((rd l k 3).int != heldS (rd l k 3).int) then (some (.inr (.inr ()))) else some (.inl ((k : Int) + (1 : Int)))) = (some (.inl ((k : Int) + 1)) : Option (Int ⊕ (Int ⊕ Unit))) ∧ ∀ j, 1 ≤ j → j < 4 → -2147483648 ≤ (rd l k j).int ∧ (rd l k j).int ≤ 2147483648) ∨
        ((bif ((rd l k 1).int != heldS (rd l k 1).int) then (some (.inr (.inr ()))) else bif ((rd l k 2).int != heldS (rd l k 2).int) then (some (.inr (.inr ()))) else bif ((rd l k 3).int != heldS (rd l k 3).int) then (some (.inr (.inr ()))) else some (.inl ((k : Int) + (1 : Int)))) = (some (.inr (.inr ())) : Option (Int ⊕ (Int ⊕ Unit))) ∧ ¬ ∀ j, 1 ≤ j → j < 4 → -2147483648 ≤ (rd l k j).int ∧ (rd l k j).int ≤ 2147483648) := by
      by_cases d1 : ((rd l k 1).int != heldS (rd l k 1).int) = true
      · exact .inr ⟨by rw [d1]; rfl, fun h => held_ne.1 d1 (h 1 (by omega) (by omega))⟩
      by_cases d2 : ((rd l k 2).int != heldS (rd l k 2).int) = true
      · exact .inr ⟨by rw [hb d1, d2]; rfl, fun h => held_ne.1 d2 (h 2 (by omega) (by omega))⟩
      by_cases d3 : ((rd l k 3).int != heldS (rd l k 3).int) = true
      · exact .inr ⟨by rw [hb d1, hb d2, d3]; rfl, fun h => held_ne.1 d3 (h 3 (by omega) (by omega))⟩
      refine .inl ⟨by rw [hb d1, hb d2, hb d3]; rfl, fun j h1 h2 => ?_⟩
      have c : j = 1 ∨ j = 2 ∨ j = 3 := by omega
      rcases c with rfl | rfl | rfl
      · exact Classical.byContradiction fun h => d1 (held_ne.2 h)
      · exact Classical.byContradiction fun h => d2 (held_ne.2 h)
      · exact Classical.byContradiction fun h => d3 (held_ne.2 h)
    by_cases hz : (k : Int) > 0
    · have w2 : IntKind.i64.wrap ((k : Int) - 1) = ((k - 1 : Nat) : Int) := by rw [wrap_in (by omega) (by omega)]; omega
      have q3 : (0 : Int) ≤ ((k - 1 : Nat) : Int) ∧ ((k - 1 : Nat) : Int) < (l.length : Int) := by omega
      by_cases c2 : (rd l k 0).int ≤ (rd l (k - 1) 0).int
      · exact .inr ⟨by simp only [rrt_L0_step, cond_dec q, cond_dec q2, Int.toNat_natCast, cond_not c0, cond_not c1, cond_dec hz, w2, cond_dec q3, cond_dec c2], fun h => by have := h.up (by omega); omega⟩
      · rcases vals with ⟨h1, h2⟩ | ⟨h1, h2⟩
        · exact .inl ⟨by simp only [rrt_L0_step, cond_dec q, cond_dec q2, Int.toNat_natCast, cond_not c0, cond_not c1, cond_dec hz, w2, cond_dec q3, cond_not c2, w1]; exact h1, ⟨by omega, by omega, fun _ => by omega, h2⟩⟩
        · exact .inr ⟨by simp only [rrt_L0_step, cond_dec q, cond_dec q2, Int.toNat_natCast, cond_not c0, cond_not c1, cond_dec hz, w2, cond_dec q3, cond_not c2, w1]; exact h1, fun h => h2 h.v⟩
    · rcases vals with ⟨h1, h2⟩ | ⟨h1, h2⟩
      · exact .inl ⟨by simp only [rrt_L0_step, cond_dec q, cond_dec q2, Int.toNat_natCast, cond_not c0, cond_not c1, cond_not hz, w1]; exact h1, ⟨by omega, by omega, fun _ => by omega, h2⟩⟩
      · exact .inr ⟨by simp only [rrt_L0_step, cond_dec q, cond_dec q2, Int.toNat_natCast, cond_not c0, cond_not c1, cond_not hz, w1]; exact h1, fun h => h2 h.v⟩
  rcases main with ⟨h1, h2⟩ | ⟨h1, h2⟩
  · exact ⟨fun _ => h1, fun h => absurd h2 h⟩
  · exact ⟨fun h => absurd h h2, fun _ => h1⟩
theorem right_of {w : Int} {l : List (List Ct)} {step : Int → Option (Int ⊕ (Int ⊕ Unit))} {res : Option Bool} {p : Bool} {v : Int ⊕ Unit} (hp : p = (iter step (l.length + 1) 0).isSome) (hv : v = (iter step (l.length + 1) 0).getD (.inl default))
    (hres : res = bif (decide (w < (0 : Int))) then (some false) else bif (decide (w > (2 : Int))) then (some false) else bif (decide ((↑l.length : Int) < (1 : Int))) then (some false) else bif (decide ((↑l.length : Int) > (16 : Int))) then (some false) else bif p then bif (isL v) then (some true) else some false else none)
    (hst : l.length ≤ 16 → ∀ k, k < l.length → (OkKey l k → step (k : Int) = some (.inl ((k : Int) + 1))) ∧ (¬ OkKey l k → step (k : Int) = some (.inr (.inr ())))) (hout : step (l.length : Int) = some (.inr (.inl (l.length : Int)))) :
    ∃ b, res = some b ∧ (b = true ↔ RightT w l) := by
  subst hres
  by_cases c0 : w < 0
  · exact ⟨false, by rw [cond_dec c0], by simp; intro h; have := h.w0; omega⟩
  by_cases c1 : w > 2
  · exact ⟨false, by rw [cond_not c0, cond_dec c1], by simp; intro h; have := h.w1; omega⟩
  by_cases c2 : (l.length : Int) < 1
  · exact ⟨false, by rw [cond_not c0, cond_not c1, cond_dec c2], by simp; intro h; have := h.n0; omega⟩
  by_cases c3 : (l.length : Int) > 16
  · exact ⟨false, by rw [cond_not c0, cond_not c1, cond_not c2, cond_dec c3], by simp; intro h; have := h.n1; omega⟩
  obtain ⟨r, h1, h2⟩ := iter_chk (step := step) (n := l.length) (m := l.length + 1) (c := fun k => OkKey l k) (hst (by omega)) hout (by omega)
  rw [h1] at hp hv
  subst hp
  subst hv
  refine ⟨isL v, ?_, ?_⟩
  · rw [cond_not c0, cond_not c1, cond_not c2, cond_not c3]
    show (bif isL v then some true else some false) = some (isL v)
    cases isL v <;> rfl
  · rw [h2]
    exact ⟨fun h => ⟨by omega, by omega, by omega, by omega, h⟩, fun h => h.ok⟩
theorem trt_is {w : Int} {l : List (List Ct)} : ∃ b, (trt_res w l = some b ∧ trt_v w l = b) ∧ (b = true ↔ RightT w l) := by
  obtain ⟨b, h1, h2⟩ := right_of (w := w) (l := l) (step := trt_L0_step w l) (res := trt_res w l) rfl rfl rfl (fun hl k hk => trt_step hl hk) (by
    have q : ¬ ((l.length : Int) < (l.length : Int)) := by omega
    simp only [trt_L0_step, cond_not q])
  exact ⟨b, ⟨h1, by unfold trt_v; rw [h1]; rfl⟩, h2⟩
theorem rrt_is {w : Int} {l : List (List Ct)} : ∃ b, (rrt_res w l = some b ∧ rrt_v w l = b) ∧ (b = true ↔ RightT w l) := by
  obtain ⟨b, h1, h2⟩ := right_of (w := w) (l := l) (step := rrt_L0_step w l) (res := rrt_res w l) rfl rfl rfl (fun hl k hk => rrt_step hl hk) (by
    have q : ¬ ((l.length : Int) < (l.length : Int)) := by omega
    simp only [rrt_L0_step, cond_not q])
  exact ⟨b, ⟨h1, by unfold rrt_v; rw [h1]; rfl⟩, h2⟩
theorem RightT.same {w : Int} {y x : List (List Ct)} (h : Same4 y x) : RightT w y ↔ RightT w x := by
  have key : ∀ i, i < x.length → (OkKey y i ↔ OkKey x i) := fun i hi => by
    have e0 := h.at' i hi 0 (by omega)
    constructor
    · intro k
      exact ⟨by rw [← e0]; exact k.t0, by rw [← e0]; exact k.t1, fun hz => by rw [← e0, ← h.at' (i - 1) (by omega) 0 (by omega)]; exact k.up hz, fun j h1 h2 => by rw [← h.at' i hi j h2]; exact k.v j h1 h2⟩
    · intro k
      exact ⟨by rw [e0]; exact k.t0, by rw [e0]; exact k.t1, fun hz => by rw [e0, h.at' (i - 1) (by omega) 0 (by omega)]; exact k.up hz, fun j h1 h2 => by rw [h.at' i hi j h2]; exact k.v j h1 h2⟩
  constructor
  · intro k; exact ⟨k.w0, k.w1, by rw [← h.len]; exact k.n0, by rw [← h.len]; exact k.n1, fun i hi => (key i hi).1 (k.ok i (by rw [h.len]; exact hi))⟩
  · intro k; exact ⟨k.w0, k.w1, by rw [h.len]; exact k.n0, by rw [h.len]; exact k.n1, fun i hi => (key i (by rw [← h.len]; exact hi)).2 (k.ok i (by rw [← h.len]; exact hi))⟩
theorem RightT.mono {w : Int} {l : List (List Ct)} (h : RightT w l) : ∀ {i j : Nat}, i < j → j < l.length → (rd l i 0).int < (rd l j 0).int := by
  intro i j
  induction j with
  | zero => intro h1; omega
  | succ j ih =>
    intro h1 h2
    have := (h.ok (j + 1) h2).up (by omega)
    rw [Nat.add_sub_cancel] at this
    by_cases hij : i = j
    · subst hij; exact this
    · have := ih (by omega) (by omega); omega
/-- The last key that isn't behind a time. -/
structure PlaceT (l : List (List Ct)) (t p : Int) : Prop where
  p0 : -1 ≤ p
  p1 : p < l.length
  le : ∀ i : Nat, (i : Int) ≤ p → (rd l i 0).int ≤ t
  gt : ∀ i : Nat, p < i → i < l.length → t < (rd l i 0).int
theorem PlaceT.uniq {l : List (List Ct)} {t p q : Int} (h : PlaceT l t p) (k : PlaceT l t q) : p = q := by
  apply Classical.byContradiction
  intro hne
  have := h.p0; have := k.p0; have := h.p1; have := k.p1
  by_cases hlt : p < q
  · have h1 := h.gt q.toNat (by omega) (by omega)
    have h2 := k.le q.toNat (by omega)
    omega
  · have h1 := k.gt p.toNat (by omega) (by omega)
    have h2 := h.le p.toNat (by omega)
    omega
theorem rpl_it {w t : Int} {l : List (List Ct)} (h : RightT w l) : ∀ (d k : Nat) (a : Int), k + d = l.length → -1 ≤ a → a < k → (∀ i : Nat, (i : Int) ≤ a → (rd l i 0).int ≤ t) → (∀ i : Nat, a < i → i < k → t < (rd l i 0).int) →
    ∃ p c, iter (rpl_L0_step w l t) (d + 1) (a, (k : Int)) = some (p, c) ∧ PlaceT l t p := by
  intro d
  induction d with
  | zero =>
    intro k a hk h0 h1 h2 h3
    have q : ¬ ((k : Int) < (l.length : Int)) := by omega
    exact ⟨a, (k : Int), iter_inr (by simp only [rpl_L0_step, cond_not q]), ⟨h0, by omega, h2, fun i hi hl => h3 i hi (by omega)⟩⟩
  | succ d ih =>
    intro k a hk h0 h1 h2 h3
    have hn := h.n1
    have q : ((k : Int) < (l.length : Int)) := by omega
    have q2 : ((0 : Int) ≤ (k : Int) ∧ (k : Int) < (l.length : Int)) := by omega
    have w1 : IntKind.i64.wrap ((k : Int) + 1) = ((k + 1 : Nat) : Int) := by rw [wrap_in (by omega) (by omega)]; omega
    by_cases c : (rd l k 0).int ≤ t
    · have hst : rpl_L0_step w l t (a, (k : Int)) = some (.inl ((k : Int), ((k + 1 : Nat) : Int))) := by
        simp only [rpl_L0_step, cond_dec q, cond_dec q2, Int.toNat_natCast, w1, cond_dec c]
      rw [iter_inl hst]
      refine ih (k + 1) (k : Int) (by omega) (by omega) (by omega) (fun i hi => ?_) (fun i h4 h5 => by omega)
      by_cases hik : i = k
      · subst hik; exact c
      · have := h.mono (i := i) (j := k) (by omega) (by omega); omega
    · have hst : rpl_L0_step w l t (a, (k : Int)) = some (.inl (a, ((k + 1 : Nat) : Int))) := by
        simp only [rpl_L0_step, cond_dec q, cond_dec q2, Int.toNat_natCast, w1, cond_not c]
      rw [iter_inl hst]
      refine ih (k + 1) a (by omega) h0 (by omega) h2 (fun i h4 h5 => ?_)
      by_cases hik : i = k
      · subst hik; omega
      · exact h3 i h4 (by omega)
theorem rpl_is {w t : Int} {l : List (List Ct)} (h : RightT w l) : ∃ p, (rpl_res w l t = some p ∧ rpl_v w l t = p) ∧ PlaceT l t p := by
  obtain ⟨p, c, h1, h2⟩ := rpl_it (t := t) h l.length 0 (-1) (by omega) (by omega) (by omega) (fun i hi => by omega) (fun i _ hi => by omega)
  rw [show ((0 : Nat) : Int) = 0 from rfl] at h1
  have p1 : rpl_L0_p w l t = true := by unfold rpl_L0_p; rw [h1]; rfl
  have hr : rpl_res w l t = some p := by unfold rpl_res rpl_L0_v loopRes; rw [p1, h1]; rfl
  exact ⟨p, ⟨hr, by unfold rpl_v; rw [hr]; rfl⟩, h2⟩
theorem bsf_it {w t : Int} {l : List (List Ct)} (h : RightT w l) : ∀ (d i j fuel : Nat), j = i + d → j ≤ l.length → d < fuel → (∀ k : Nat, k < i → (rd l k 0).int < t) → (∀ k : Nat, j ≤ k → k < l.length → t ≤ (rd l k 0).int) →
    ∃ (m : Nat) (c : Int), iter (bsf_L0_step l t) fuel ((i : Int), (j : Int)) = some ((m : Int), c) ∧ m ≤ l.length ∧ (∀ k : Nat, k < m → (rd l k 0).int < t) ∧ (∀ k : Nat, m ≤ k → k < l.length → t ≤ (rd l k 0).int) := by
  intro d
  induction d using Nat.strongRecOn with
  | _ d ih =>
    intro i j fuel hj hl hf h1 h2
    have hn := h.n1
    obtain ⟨fuel, rfl⟩ : ∃ k, fuel = k + 1 := ⟨fuel - 1, by omega⟩
    by_cases hd : d = 0
    · obtain rfl : j = i := by omega
      have q : ¬ ((j : Int) < (j : Int)) := by omega
      exact ⟨j, (j : Int), iter_inr (by simp only [bsf_L0_step, cond_not q]), hl, h1, h2⟩
    · have q : ((i : Int) < (j : Int)) := by omega
      have m1 : IntKind.i64.wrap ((IntKind.u64.wrap (IntKind.i64.wrap ((i : Int) + (j : Int)))).fdiv ((2 : Int) ^ min (Int.toNat (1 : Int)) IntKind.u64.bits)) = (((i + j) / 2 : Nat) : Int) := by
        rw [show (2 : Int) ^ min (Int.toNat (1 : Int)) IntKind.u64.bits = 2 from rfl, wrap_in (n := (i : Int) + j) (by omega) (by omega)]
        have u : IntKind.u64.wrap ((i : Int) + j) = (i : Int) + j := by
          simp only [IntKind.wrap, IntKind.bits, IntKind.signed, Bool.false_and]
          rw [if_neg (by simp)]
          omega
        rw [u, Int.fdiv_eq_ediv_of_nonneg _ (by omega), wrap_in (by omega) (by omega)]
        omega
      generalize hm : (i + j) / 2 = m at m1
      have hm1 : i ≤ m ∧ m < j := by omega
      have q2 : (0 : Int) ≤ (m : Int) ∧ (m : Int) < (l.length : Int) := by omega
      by_cases c : (rd l m 0).int < t
      · have w1 : IntKind.i64.wrap ((m : Int) + 1) = ((m + 1 : Nat) : Int) := by rw [wrap_in (by omega) (by omega)]; omega
        have hst : bsf_L0_step l t ((i : Int), (j : Int)) = some (.inl (((m + 1 : Nat) : Int), (j : Int))) := by
          simp only [bsf_L0_step, cond_dec q, m1, cond_dec q2, Int.toNat_natCast, cond_dec c, w1]
        rw [iter_inl hst]
        refine ih (j - (m + 1)) (by omega) (m + 1) j fuel (by omega) hl (by omega) (fun k hk => ?_) h2
        by_cases hkm : k = m
        · subst hkm; exact c
        · have := h.mono (i := k) (j := m) (by omega) (by omega); omega
      · have hst : bsf_L0_step l t ((i : Int), (j : Int)) = some (.inl ((i : Int), (m : Int))) := by
          by_cases c2 : (rd l m 0).int > t
          · simp only [bsf_L0_step, cond_dec q, m1, cond_dec q2, Int.toNat_natCast, cond_not c, cond_dec c2]
          · simp only [bsf_L0_step, cond_dec q, m1, cond_dec q2, Int.toNat_natCast, cond_not c, cond_not c2]
        rw [iter_inl hst]
        refine ih (m - i) (by omega) i m fuel (by omega) (by omega) (by omega) h1 (fun k hk hkl => ?_)
        by_cases hkm : k = m
        · subst hkm; omega
        · have := h.mono (i := m) (j := k) (by omega) hkl; omega
theorem tpl_is {w t : Int} {l : List (List Ct)} (h : RightT w l) : ∃ p, (tpl_res w l t = some p ∧ tpl_v w l t = p) ∧ PlaceT l t p := by
  have hn := h.n1
  obtain ⟨m, c, h1, h2, h3, h4⟩ := bsf_it (t := t) h l.length 0 l.length (l.length + 1) (by omega) (Nat.le_refl _) (by omega) (fun k hk => by omega) (fun k hk hkl => by omega)
  rw [show ((0 : Nat) : Int) = 0 from rfl] at h1
  have p1 : bsf_L0_p l t = true := by unfold bsf_L0_p; rw [h1]; rfl
  have p2 : (bsf_L0_v l t).1 = (m : Int) := by unfold bsf_L0_v loopRes; rw [h1]; rfl
  have fin : ∀ (b : Bool) (p : Int), bsf_res l t = some ((m : Int), b) → p = (bif b then (m : Int) else (m : Int) - 1) → PlaceT l t p → ∃ p, (tpl_res w l t = some p ∧ tpl_v w l t = p) ∧ PlaceT l t p := by
    intro b p hb hp hP
    have hv : bsf_v l t = ((m : Int), b) := by unfold bsf_v; rw [hb]; rfl
    have w1 : IntKind.i64.wrap ((m : Int) - 1) = (m : Int) - 1 := wrap_in (by omega) (by omega)
    have hr : tpl_res w l t = some p := by
      unfold tpl_res
      rw [hb, hv]
      cases b with
      | true => rw [hp]; rfl
      | false => rw [hp]; simp only [w1]; rfl
    exact ⟨p, ⟨hr, by unfold tpl_v; rw [hr]; rfl⟩, hP⟩
  by_cases hm : m < l.length
  · have q : (m : Int) < (l.length : Int) := by omega
    have q2 : (0 : Int) ≤ (m : Int) ∧ (m : Int) < (l.length : Int) := by omega
    have hmt := h4 m (Nat.le_refl _) hm
    have c1 : ¬ (rd l m 0).int < t := by omega
    by_cases c2 : (rd l m 0).int > t
    · refine fin false ((m : Int) - 1) ?_ rfl ⟨by omega, by omega, fun i hi => by have := h3 i (by omega); omega, fun i hi hl => ?_⟩
      · unfold bsf_res
        simp only [p1, p2, cond_true, cond_dec q, cond_dec q2, Int.toNat_natCast, cond_not c1, cond_dec c2]
      · by_cases him : i = m
        · subst him; exact c2
        · have := h.mono (i := m) (j := i) (by omega) hl; omega
    · refine fin true (m : Int) ?_ rfl ⟨by omega, by omega, fun i hi => ?_, fun i hi hl => ?_⟩
      · unfold bsf_res
        simp only [p1, p2, cond_true, cond_dec q, cond_dec q2, Int.toNat_natCast, cond_not c1, cond_not c2]
      · by_cases him : i = m
        · subst him; omega
        · have := h3 i (by omega); omega
      · have := h.mono (i := m) (j := i) (by omega) hl; omega
  · have q : ¬ (m : Int) < (l.length : Int) := by omega
    refine fin false ((m : Int) - 1) ?_ rfl ⟨by omega, by omega, fun i hi => by have := h3 i (by omega); omega, fun i hi hl => by omega⟩
    unfold bsf_res
    simp only [p1, p2, cond_true, cond_not q]
/-- A track's value. -/
def atP (w : Int) (l : List (List Ct)) (t p : Int) : Int := (fun d => if w = 2 then easeS d else d) (divS (IntKind.i64.wrap (t - (rd l p.toNat 0).int)) (IntKind.i64.wrap ((rd l (p.toNat + 1) 0).int - (rd l p.toNat 0).int)))
def atJ (w : Int) (l : List (List Ct)) (t p : Int) (j : Nat) : Int :=
  if p < 0 then (rd l 0 j).int else if p = (l.length : Int) - 1 ∨ w = 0 then (rd l p.toNat j).int else lerpS (rd l p.toNat j).int (rd l (p.toNat + 1) j).int (atP w l t p)
theorem at_of {w t p : Int} {l : List (List Ct)} (h : RightT w l) (hp : PlaceT l t p) {res : Option (Int × Int × Int)} {R : Option Bool} {r : Bool} {P : Option Int} (hR : R.isSome = true) (hr : r = true) (hP : P.isSome = true)
    (hres : res = bif (R.isSome) then bif (!r) then (some (0, 0, 0)) else bif (P.isSome) then bif (decide (p < (0 : Int))) then (bif (decide ((0 : Int) ≤ (0 : Int) ∧ (0 : Int) < (↑l.length : Int))) then some ((rd l (Int.toNat (0 : Int)) 1).int, (rd l (Int.toNat (0 : Int)) 2).int, (rd l (Int.toNat (0 : Int)) 3).int) else none) else bif (p == IntKind.i64.wrap ((↑l.length : Int) - (1 : Int))) then (bif (decide ((0 : Int) ≤ p ∧ p < (↑l.length : Int))) then some ((rd l (p).toNat 1).int, (rd l (p).toNat 2).int, (rd l (p).toNat 3).int) else none) else bif (w == (0 : Int)) then (bif (decide ((0 : Int) ≤ p ∧ p < (↑l.length : Int))) then some ((rd l (p).toNat 1).int, (rd l (p).toNat 2).int, (rd l (p).toNat 3).int) else none) else bif (decide ((0 : Int) ≤ p ∧ p < (↑l.length : Int))) then bif (decide ((0 : Int) ≤ IntKind.i64.wrap (p + (1 : Int)) ∧ IntKind.i64.wrap (p + (1 : Int)) < (↑l.length : Int))) then bif (w == (2 : Int)) then (some (lerpS (rd l (p).toNat 1).int (rd l (IntKind.i64.wrap (p + (1 : Int))).toNat 1).int (easeS (divS (IntKind.i64.wrap (t - (rd l (p).toNat 0).int)) (IntKind.i64.wrap ((rd l (IntKind.i64.wrap (p + (1 : Int))).toNat 0).int - (rd l (p).toNat 0).int)))), lerpS (rd l (p).toNat 2).int (rd l (IntKind.i64.wrap (p + (1 : Int))).toNat 2).int (easeS (divS (IntKind.i64.wrap (t - (rd l (p).toNat 0).int)) (IntKind.i64.wrap ((rd l (IntKind.i64.wrap (p + (1 : Int))).toNat 0).int - (rd l (p).toNat 0).int)))), lerpS (rd l (p).toNat 3).int (rd l (IntKind.i64.wrap (p + (1 : Int))).toNat 3).int (easeS (divS (IntKind.i64.wrap (t - (rd l (p).toNat 0).int)) (IntKind.i64.wrap ((rd l (IntKind.i64.wrap (p + (1 : Int))).toNat 0).int - (rd l (p).toNat 0).int)))))) else some (lerpS (rd l (p).toNat 1).int (rd l (IntKind.i64.wrap (p + (1 : Int))).toNat 1).int (divS (IntKind.i64.wrap (t - (rd l (p).toNat 0).int)) (IntKind.i64.wrap ((rd l (IntKind.i64.wrap (p + (1 : Int))).toNat 0).int - (rd l (p).toNat 0).int))), lerpS (rd l (p).toNat 2).int (rd l (IntKind.i64.wrap (p + (1 : Int))).toNat 2).int (divS (IntKind.i64.wrap (t - (rd l (p).toNat 0).int)) (IntKind.i64.wrap ((rd l (IntKind.i64.wrap (p + (1 : Int))).toNat 0).int - (rd l (p).toNat 0).int))), lerpS (rd l (p).toNat 3).int (rd l (IntKind.i64.wrap (p + (1 : Int))).toNat 3).int (divS (IntKind.i64.wrap (t - (rd l (p).toNat 0).int)) (IntKind.i64.wrap ((rd l (IntKind.i64.wrap (p + (1 : Int))).toNat 0).int - (rd l (p).toNat 0).int)))) else none else none else none else none) : res = some (atJ w l t p 1, atJ w l t p 2, atJ w l t p 3) := by
  subst hres
  subst hr
  rw [hR, hP]
  have hn := h.n1
  have hn0 := h.n0
  have := hp.p0; have := hp.p1
  have w1 : IntKind.i64.wrap ((l.length : Int) - 1) = (l.length : Int) - 1 := wrap_in (by omega) (by omega)
  have w2 : IntKind.i64.wrap (p + 1) = p + 1 := wrap_in (by omega) (by omega)
  simp only [Bool.not_true, cond_false, cond_true, w1, w2]
  by_cases c0 : p < 0
  · have q : (0 : Int) ≤ 0 ∧ (0 : Int) < (l.length : Int) := by omega
    rw [cond_dec c0, cond_dec q]
    simp only [atJ, if_pos c0]
    rfl
  rw [cond_not c0]
  have q : (0 : Int) ≤ p ∧ p < (l.length : Int) := by omega
  by_cases c1 : p = (l.length : Int) - 1
  · rw [show (p == (l.length : Int) - 1) = true by simpa using c1, cond_true, cond_dec q]
    simp only [atJ, if_neg c0, if_pos (Or.inl c1 : p = (l.length : Int) - 1 ∨ w = 0)]
  rw [show (p == (l.length : Int) - 1) = false by simpa using c1, cond_false]
  by_cases c2 : w = 0
  · rw [show (w == (0 : Int)) = true by simpa using c2, cond_true, cond_dec q]
    simp only [atJ, if_neg c0, if_pos (Or.inr c2 : p = (l.length : Int) - 1 ∨ w = 0)]
  have q3 : (0 : Int) ≤ p + 1 ∧ p + 1 < (l.length : Int) := by omega
  have e : (p + 1).toNat = p.toNat + 1 := by omega
  have cn : ¬ (p = (l.length : Int) - 1 ∨ w = 0) := by omega
  rw [show (w == (0 : Int)) = false by simpa using c2, cond_false, cond_dec q, cond_dec q3]
  by_cases c3 : w = 2
  · rw [show (w == (2 : Int)) = true by simpa using c3, cond_true]
    simp only [atJ, atP, if_neg c0, if_neg cn, if_pos c3, e]
  · rw [show (w == (2 : Int)) = false by simpa using c3, cond_false]
    simp only [atJ, atP, if_neg c0, if_neg cn, if_neg c3, e]
theorem tat_is {w t : Int} {l : List (List Ct)} (h : RightT w l) : ∃ p, PlaceT l t p ∧ tpl_v w l t = p ∧ tat_res w l t = some (atJ w l t p 1, atJ w l t p 2, atJ w l t p 3) ∧ tat_v w l t = (atJ w l t p 1, atJ w l t p 2, atJ w l t p 3) := by
  obtain ⟨b, ⟨r1, r2⟩, r3⟩ := trt_is (w := w) (l := l)
  obtain ⟨p, ⟨k1, k2⟩, k3⟩ := tpl_is (t := t) h
  have := at_of h k3 (res := tat_res w l t) (R := trt_res w l) (r := trt_v w l) (P := tpl_res w l t) (by rw [r1]; rfl) (by rw [r2]; exact r3.2 h) (by rw [k1]; rfl) (by unfold tat_res; rw [k2])
  exact ⟨p, k3, k2, this, by unfold tat_v; rw [this]; rfl⟩
theorem rat_is {w t : Int} {l : List (List Ct)} (h : RightT w l) : ∃ p, PlaceT l t p ∧ rpl_v w l t = p ∧ rat_res w l t = some (atJ w l t p 1, atJ w l t p 2, atJ w l t p 3) ∧ rat_v w l t = (atJ w l t p 1, atJ w l t p 2, atJ w l t p 3) := by
  obtain ⟨b, ⟨r1, r2⟩, r3⟩ := rrt_is (w := w) (l := l)
  obtain ⟨p, ⟨k1, k2⟩, k3⟩ := rpl_is (t := t) h
  have := at_of h k3 (res := rat_res w l t) (R := rrt_res w l) (r := rrt_v w l) (P := rpl_res w l t) (by rw [r1]; rfl) (by rw [r2]; exact r3.2 h) (by rw [k1]; rfl) (by unfold rat_res; rw [k2])
  exact ⟨p, k3, k2, this, by unfold rat_v; rw [this]; rfl⟩
theorem PlaceT.same {y x : List (List Ct)} (h : Same4 y x) {t p : Int} (k : PlaceT y t p) : PlaceT x t p :=
  ⟨k.p0, by have := k.p1; rw [h.len] at this; exact this, fun i hi => by have := k.p1; rw [h.len] at this; rw [← h.at' i (by omega) 0 (by omega)]; exact k.le i hi, fun i hi hl => by rw [← h.at' i hl 0 (by omega)]; exact k.gt i hi (by rw [h.len]; exact hl)⟩
theorem atJ_same {y x : List (List Ct)} (h : Same4 y x) {w t p : Int} (hx : 1 ≤ x.length) (h0 : -1 ≤ p) (h1 : p < x.length) {j : Nat} (hj : j < 4) : atJ w y t p j = atJ w x t p j := by
  unfold atJ
  by_cases c0 : p < 0
  · rw [if_pos c0, if_pos c0, h.at' 0 (by omega) j hj]
  rw [if_neg c0, if_neg c0, h.len]
  by_cases c1 : p = (x.length : Int) - 1 ∨ w = 0
  · rw [if_pos c1, if_pos c1, h.at' p.toNat (by omega) j hj]
  · rw [if_neg c1, if_neg c1, h.at' p.toNat (by omega) j hj, h.at' (p.toNat + 1) (by omega) j hj]
    unfold atP
    rw [h.at' p.toNat (by omega) 0 (by omega), h.at' (p.toNat + 1) (by omega) 0 (by omega)]
end Go.Proofs.Ytlcgjkljeggjhaa
