/- The law WarpBetween: it answers true for all values, where no list is longer than 1048576. No other condition. -/
import Derived.Test.YtkbhnomgkmeojaaWarpBetweenT
import Derived.Test.YtkbhnomgkmeojaaWarpBlends
import Derived.Test.YtkbhnomgkmeojaaLerp
set_option linter.unusedVariables false
set_option linter.unusedSimpArgs false
namespace Go.Proofs.Ytkbhnomgkmeojaa
open Go.RowKit

/-- h lies between x and y, and is held. -/
def Bt (h x y : Int) : Prop := (¬ h < if y < x then y else x) ∧ (¬ h > if y > x then y else x) ∧ h = heldS h
theorem bne_of {a b : Int} (h : a = b) : (a != b) = false := by simp [h]
theorem bt_self {x y : Int} (h : x = heldS x) : Bt x x y := ⟨by split <;> omega, by split <;> omega, h⟩
theorem bt_lerp {x y : Int} (t : Int) (hx : x = heldS x) (hy : y = heldS y) : Bt (lerpS x y t) x y := by
  have h1 := lerp_min x y t
  have h2 := lerp_max x y t
  rw [← hx, ← hy] at h1 h2
  refine ⟨h1, h2, ?_⟩
  unfold lerpS
  exact (heldS_held _).symm
theorem lwt_round (x0_0 x0_1 : Int) (x0_2 x0_3 x0_4 x0_5 x0_6 x0_7 : List (List Ct)) (x1_0 x1_1 : Int) (x1_2 x1_3 x1_4 x1_5 x1_6 x1_7 : List (List Ct)) {c2 c3 c4 c5 c6 c7 : Int} {l0 l1 l2 l3 l4 l5 l6 l7 l8 l9 l10 l11 l12 l13 : List (List Ct)} {n : Int} {k : Nat} (hn : (k : Int) < n) (k13 : k < l13.length) (k7 : k < x0_7.length) (k2 : k < x0_2.length) (hl : l13.length ≤ 1048576)
    (H1 : 0 ≤ (rd x0_7 k 0).int → (rd x0_7 k 0).int < x1_2.length → ∀ c, c < 3 → Bt (rd l13 k c).int (rd x0_2 k c).int (rd x1_2 (rd x0_7 k 0).int.toNat c).int)
    (H2 : ¬ (0 ≤ (rd x0_7 k 0).int ∧ (rd x0_7 k 0).int < x1_2.length) → ∀ c, c < 3 → Bt (rd l13 k c).int (rd x0_2 k c).int (rd x0_2 k c).int) :
    lwt_L0_step x0_0 x0_1 x0_2 x0_3 x0_4 x0_5 x0_6 x0_7 x1_0 x1_1 x1_2 x1_3 x1_4 x1_5 x1_6 x1_7 (n, (k : Int), c2, c3, c4, c5, c6, c7, l0, l1, l2, l3, l4, l5, l6, l7, l8, l9, l10, l11, l12, l13) = some (.inl (n, ((k + 1 : Nat) : Int), c2, c3, c4, c5, c6, c7, l0, l1, l2, l3, l4, l5, l6, l7, l8, l9, l10, l11, l12, l13)) := by
  have w : IntKind.i64.wrap ((k : Int) + 1) = ((k + 1 : Nat) : Int) := wrap_in (by omega) (by omega)
  have a1 : decide ((k : Int) < n) = true := decide_eq_true hn
  have a2 : decide ((0 : Int) ≤ (k : Int) ∧ (k : Int) < (↑l13.length : Int)) = true := decide_eq_true (by omega)
  have a3 : decide ((0 : Int) ≤ (k : Int) ∧ (k : Int) < (↑x0_7.length : Int)) = true := decide_eq_true (by omega)
  have a4 : decide ((0 : Int) ≤ (k : Int) ∧ (k : Int) < (↑x0_2.length : Int)) = true := decide_eq_true (by omega)
  unfold lwt_L0_step
  dsimp only
  rw [a1, a2, a3, a4, w]
  by_cases g0 : (rd x0_7 (k : Int).toNat 0).int ≥ (0 : Int)
  case neg =>
    have d0 : decide ((rd x0_7 (k : Int).toNat 0).int ≥ (0 : Int)) = false := decide_eq_false g0
    have q := H2 (fun h => g0 h.1)
    have q0 := q 0 (by omega)
    have q1 := q 1 (by omega)
    have q2 := q 2 (by omega)
    have p0 : decide ((rd l13 (k : Int).toNat 0).int < if (rd x0_2 (k : Int).toNat 0).int < (rd x0_2 (k : Int).toNat 0).int then (rd x0_2 (k : Int).toNat 0).int else (rd x0_2 (k : Int).toNat 0).int) = false := decide_eq_false (q0).1
    have r0 : decide ((rd l13 (k : Int).toNat 0).int > if (rd x0_2 (k : Int).toNat 0).int > (rd x0_2 (k : Int).toNat 0).int then (rd x0_2 (k : Int).toNat 0).int else (rd x0_2 (k : Int).toNat 0).int) = false := decide_eq_false (q0).2.1
    have s0 : ((rd l13 (k : Int).toNat 0).int != heldS (rd l13 (k : Int).toNat 0).int) = false := bne_of (q0).2.2
    have p1 : decide ((rd l13 (k : Int).toNat 1).int < if (rd x0_2 (k : Int).toNat 1).int < (rd x0_2 (k : Int).toNat 1).int then (rd x0_2 (k : Int).toNat 1).int else (rd x0_2 (k : Int).toNat 1).int) = false := decide_eq_false (q1).1
    have r1 : decide ((rd l13 (k : Int).toNat 1).int > if (rd x0_2 (k : Int).toNat 1).int > (rd x0_2 (k : Int).toNat 1).int then (rd x0_2 (k : Int).toNat 1).int else (rd x0_2 (k : Int).toNat 1).int) = false := decide_eq_false (q1).2.1
    have s1 : ((rd l13 (k : Int).toNat 1).int != heldS (rd l13 (k : Int).toNat 1).int) = false := bne_of (q1).2.2
    have p2 : decide ((rd l13 (k : Int).toNat 2).int < if (rd x0_2 (k : Int).toNat 2).int < (rd x0_2 (k : Int).toNat 2).int then (rd x0_2 (k : Int).toNat 2).int else (rd x0_2 (k : Int).toNat 2).int) = false := decide_eq_false (q2).1
    have r2 : decide ((rd l13 (k : Int).toNat 2).int > if (rd x0_2 (k : Int).toNat 2).int > (rd x0_2 (k : Int).toNat 2).int then (rd x0_2 (k : Int).toNat 2).int else (rd x0_2 (k : Int).toNat 2).int) = false := decide_eq_false (q2).2.1
    have s2 : ((rd l13 (k : Int).toNat 2).int != heldS (rd l13 (k : Int).toNat 2).int) = false := bne_of (q2).2.2
    rw [d0, p0, r0, s0, p1, r1, s1, p2, r2, s2]
    rfl
  have d0 : decide ((rd x0_7 (k : Int).toNat 0).int ≥ (0 : Int)) = true := decide_eq_true g0
  by_cases g1 : (rd x0_7 (k : Int).toNat 0).int < (↑x1_2.length : Int)
  case neg =>
    have d1 : decide ((rd x0_7 (k : Int).toNat 0).int < (↑x1_2.length : Int)) = false := decide_eq_false g1
    have q := H2 (fun h => g1 h.2)
    have q0 := q 0 (by omega)
    have q1 := q 1 (by omega)
    have q2 := q 2 (by omega)
    have p0 : decide ((rd l13 (k : Int).toNat 0).int < if (rd x0_2 (k : Int).toNat 0).int < (rd x0_2 (k : Int).toNat 0).int then (rd x0_2 (k : Int).toNat 0).int else (rd x0_2 (k : Int).toNat 0).int) = false := decide_eq_false (q0).1
    have r0 : decide ((rd l13 (k : Int).toNat 0).int > if (rd x0_2 (k : Int).toNat 0).int > (rd x0_2 (k : Int).toNat 0).int then (rd x0_2 (k : Int).toNat 0).int else (rd x0_2 (k : Int).toNat 0).int) = false := decide_eq_false (q0).2.1
    have s0 : ((rd l13 (k : Int).toNat 0).int != heldS (rd l13 (k : Int).toNat 0).int) = false := bne_of (q0).2.2
    have p1 : decide ((rd l13 (k : Int).toNat 1).int < if (rd x0_2 (k : Int).toNat 1).int < (rd x0_2 (k : Int).toNat 1).int then (rd x0_2 (k : Int).toNat 1).int else (rd x0_2 (k : Int).toNat 1).int) = false := decide_eq_false (q1).1
    have r1 : decide ((rd l13 (k : Int).toNat 1).int > if (rd x0_2 (k : Int).toNat 1).int > (rd x0_2 (k : Int).toNat 1).int then (rd x0_2 (k : Int).toNat 1).int else (rd x0_2 (k : Int).toNat 1).int) = false := decide_eq_false (q1).2.1
    have s1 : ((rd l13 (k : Int).toNat 1).int != heldS (rd l13 (k : Int).toNat 1).int) = false := bne_of (q1).2.2
    have p2 : decide ((rd l13 (k : Int).toNat 2).int < if (rd x0_2 (k : Int).toNat 2).int < (rd x0_2 (k : Int).toNat 2).int then (rd x0_2 (k : Int).toNat 2).int else (rd x0_2 (k : Int).toNat 2).int) = false := decide_eq_false (q2).1
    have r2 : decide ((rd l13 (k : Int).toNat 2).int > if (rd x0_2 (k : Int).toNat 2).int > (rd x0_2 (k : Int).toNat 2).int then (rd x0_2 (k : Int).toNat 2).int else (rd x0_2 (k : Int).toNat 2).int) = false := decide_eq_false (q2).2.1
    have s2 : ((rd l13 (k : Int).toNat 2).int != heldS (rd l13 (k : Int).toNat 2).int) = false := bne_of (q2).2.2
    rw [d0, d1, p0, r0, s0, p1, r1, s1, p2, r2, s2]
    rfl
  · have d1 : decide ((rd x0_7 (k : Int).toNat 0).int < (↑x1_2.length : Int)) = true := decide_eq_true g1
    have d2 : decide ((0 : Int) ≤ (rd x0_7 (k : Int).toNat 0).int ∧ (rd x0_7 (k : Int).toNat 0).int < (↑x1_2.length : Int)) = true := decide_eq_true ⟨g0, g1⟩
    have q := H1 g0 g1
    have q0 := q 0 (by omega)
    have q1 := q 1 (by omega)
    have q2 := q 2 (by omega)
    have p0 : decide ((rd l13 (k : Int).toNat 0).int < if (rd x1_2 (rd x0_7 (k : Int).toNat 0).int.toNat 0).int < (rd x0_2 (k : Int).toNat 0).int then (rd x1_2 (rd x0_7 (k : Int).toNat 0).int.toNat 0).int else (rd x0_2 (k : Int).toNat 0).int) = false := decide_eq_false (q0).1
    have r0 : decide ((rd l13 (k : Int).toNat 0).int > if (rd x1_2 (rd x0_7 (k : Int).toNat 0).int.toNat 0).int > (rd x0_2 (k : Int).toNat 0).int then (rd x1_2 (rd x0_7 (k : Int).toNat 0).int.toNat 0).int else (rd x0_2 (k : Int).toNat 0).int) = false := decide_eq_false (q0).2.1
    have s0 : ((rd l13 (k : Int).toNat 0).int != heldS (rd l13 (k : Int).toNat 0).int) = false := bne_of (q0).2.2
    have p1 : decide ((rd l13 (k : Int).toNat 1).int < if (rd x1_2 (rd x0_7 (k : Int).toNat 0).int.toNat 1).int < (rd x0_2 (k : Int).toNat 1).int then (rd x1_2 (rd x0_7 (k : Int).toNat 0).int.toNat 1).int else (rd x0_2 (k : Int).toNat 1).int) = false := decide_eq_false (q1).1
    have r1 : decide ((rd l13 (k : Int).toNat 1).int > if (rd x1_2 (rd x0_7 (k : Int).toNat 0).int.toNat 1).int > (rd x0_2 (k : Int).toNat 1).int then (rd x1_2 (rd x0_7 (k : Int).toNat 0).int.toNat 1).int else (rd x0_2 (k : Int).toNat 1).int) = false := decide_eq_false (q1).2.1
    have s1 : ((rd l13 (k : Int).toNat 1).int != heldS (rd l13 (k : Int).toNat 1).int) = false := bne_of (q1).2.2
    have p2 : decide ((rd l13 (k : Int).toNat 2).int < if (rd x1_2 (rd x0_7 (k : Int).toNat 0).int.toNat 2).int < (rd x0_2 (k : Int).toNat 2).int then (rd x1_2 (rd x0_7 (k : Int).toNat 0).int.toNat 2).int else (rd x0_2 (k : Int).toNat 2).int) = false := decide_eq_false (q2).1
    have r2 : decide ((rd l13 (k : Int).toNat 2).int > if (rd x1_2 (rd x0_7 (k : Int).toNat 0).int.toNat 2).int > (rd x0_2 (k : Int).toNat 2).int then (rd x1_2 (rd x0_7 (k : Int).toNat 0).int.toNat 2).int else (rd x0_2 (k : Int).toNat 2).int) = false := decide_eq_false (q2).2.1
    have s2 : ((rd l13 (k : Int).toNat 2).int != heldS (rd l13 (k : Int).toNat 2).int) = false := bne_of (q2).2.2
    rw [d0, d1, d2, p0, r0, s0, p1, r1, s1, p2, r2, s2]
    rfl
theorem lwt_loop (x0_0 x0_1 : Int) (x0_2 x0_3 x0_4 x0_5 x0_6 x0_7 : List (List Ct)) (x1_0 x1_1 : Int) (x1_2 x1_3 x1_4 x1_5 x1_6 x1_7 : List (List Ct)) {c2 c3 c4 c5 c6 c7 : Int} {l0 l1 l2 l3 l4 l5 l6 l7 l8 l9 l10 l11 l12 l13 : List (List Ct)} {n : Int} (hn : n = x0_2.length) (k13 : l13.length = x0_2.length) (k7 : x0_7.length = x0_2.length) (hl : x0_2.length ≤ 1048576)
    (H1 : ∀ k, k < x0_2.length → 0 ≤ (rd x0_7 k 0).int → (rd x0_7 k 0).int < x1_2.length → ∀ c, c < 3 → Bt (rd l13 k c).int (rd x0_2 k c).int (rd x1_2 (rd x0_7 k 0).int.toNat c).int)
    (H2 : ∀ k, k < x0_2.length → ¬ (0 ≤ (rd x0_7 k 0).int ∧ (rd x0_7 k 0).int < x1_2.length) → ∀ c, c < 3 → Bt (rd l13 k c).int (rd x0_2 k c).int (rd x0_2 k c).int) :
    iter (lwt_L0_step x0_0 x0_1 x0_2 x0_3 x0_4 x0_5 x0_6 x0_7 x1_0 x1_1 x1_2 x1_3 x1_4 x1_5 x1_6 x1_7) 1048577 (n, 0, c2, c3, c4, c5, c6, c7, l0, l1, l2, l3, l4, l5, l6, l7, l8, l9, l10, l11, l12, l13) = some (.inl (n, n, c2, c3, c4, c5, c6, c7, l0, l1, l2, l3, l4, l5, l6, l7, l8, l9, l10, l11, l12, l13)) := by
  have key : ∀ (d k m : Nat), k + d = x0_2.length → d < m → iter (lwt_L0_step x0_0 x0_1 x0_2 x0_3 x0_4 x0_5 x0_6 x0_7 x1_0 x1_1 x1_2 x1_3 x1_4 x1_5 x1_6 x1_7) m (n, (k : Int), c2, c3, c4, c5, c6, c7, l0, l1, l2, l3, l4, l5, l6, l7, l8, l9, l10, l11, l12, l13) = some (.inl (n, n, c2, c3, c4, c5, c6, c7, l0, l1, l2, l3, l4, l5, l6, l7, l8, l9, l10, l11, l12, l13)) := by
    intro d
    induction d with
    | zero =>
      intro k m hk hm
      obtain ⟨m, rfl⟩ : ∃ m', m = m' + 1 := ⟨m - 1, by omega⟩
      have hkn : (k : Int) = n := by omega
      have e : lwt_L0_step x0_0 x0_1 x0_2 x0_3 x0_4 x0_5 x0_6 x0_7 x1_0 x1_1 x1_2 x1_3 x1_4 x1_5 x1_6 x1_7 (n, (k : Int), c2, c3, c4, c5, c6, c7, l0, l1, l2, l3, l4, l5, l6, l7, l8, l9, l10, l11, l12, l13) = some (.inr (.inl (n, n, c2, c3, c4, c5, c6, c7, l0, l1, l2, l3, l4, l5, l6, l7, l8, l9, l10, l11, l12, l13))) := by
        have a1 : decide ((k : Int) < n) = false := decide_eq_false (by omega)
        unfold lwt_L0_step
        dsimp only
        rw [a1, hkn]
        rfl
      simp only [iter, e]
    | succ d ih =>
      intro k m hk hm
      obtain ⟨m, rfl⟩ : ∃ m', m = m' + 1 := ⟨m - 1, by omega⟩
      have e := lwt_round x0_0 x0_1 x0_2 x0_3 x0_4 x0_5 x0_6 x0_7 x1_0 x1_1 x1_2 x1_3 x1_4 x1_5 x1_6 x1_7 (n := n) (k := k) (c2 := c2) (c3 := c3) (c4 := c4) (c5 := c5) (c6 := c6) (c7 := c7) (l0 := l0) (l1 := l1) (l2 := l2) (l3 := l3) (l4 := l4) (l5 := l5) (l6 := l6) (l7 := l7) (l8 := l8) (l9 := l9) (l10 := l10) (l11 := l11) (l12 := l12) (l13 := l13) (by omega) (by omega) (by omega) (by omega) (by omega) (H1 k (by omega)) (H2 k (by omega))
      simp only [iter, e]
      exact ih (k + 1) m (by omega) (by omega)
  exact key x0_2.length 0 1048577 (by omega) (by omega)
theorem bt_row {L S N F S' N' Z : List (List Ct)} {m : Int} (h3 : Held3 L) (hz3 : Held3 Z) (hz : (Z.length : Int) = m) {k : Nat} (hk : k < L.length) {c : Nat} (hc : c < 3) :
    (0 ≤ (rd F k 0).int → (rd F k 0).int < Z.length → Bt (rd (tab (rowB L S N F S' N' m Z) L.length) k c).int (rd L k c).int (rd Z (rd F k 0).int.toNat c).int) ∧
    (¬ (0 ≤ (rd F k 0).int ∧ (rd F k 0).int < Z.length) → Bt (rd (tab (rowB L S N F S' N' m Z) L.length) k c).int (rd L k c).int (rd L k c).int) := by
  obtain ⟨x0, x1, x2⟩ := h3 k hk
  rw [rd_tab hk]
  unfold rowB
  cases hb : keepB S N F S' N' m k with
  | false =>
    have e : (([.i (rd L k 0).int, .i (rd L k 1).int, .i (rd L k 2).int] : List Ct).getD c (.i 0)).int = (rd L k c).int := by
      rcases c with _ | _ | _ | c
      · rfl
      · rfl
      · rfl
      · omega
    have hx : (rd L k c).int = heldS (rd L k c).int := by
      rcases c with _ | _ | _ | c
      · exact x0
      · exact x1
      · exact x2
      · omega
    simp only [cond_false, e]
    exact ⟨fun _ _ => bt_self hx, fun _ => bt_self hx⟩
  | true =>
    have h := keepB_iff.1 hb
    have f0 := h.f0
    have f1 := h.f1
    obtain ⟨z0, z1, z2⟩ := hz3 (rd F k 0).int.toNat (by omega)
    refine ⟨fun _ _ => ?_, fun hno => absurd ⟨f0, by omega⟩ hno⟩
    rcases c with _ | _ | _ | c
    · exact bt_lerp 32768 x0 z0
    · exact bt_lerp 32768 x1 z1
    · exact bt_lerp 32768 x2 z2
    · omega
theorem kept_none {S N F S' N' : List (List Ct)} {m : Int} : ∀ n : Nat, n ≤ 4096 → 0 ≤ nfold (keptF S N F S' N' m) n 0 ∧ nfold (keptF S N F S' N' m) n 0 ≤ n ∧ (nfold (keptF S N F S' N' m) n 0 = 0 → ∀ k, k < n → keepB S N F S' N' m k = false) := by
  intro n
  induction n with
  | zero => intro _; exact ⟨Int.le_refl _, Int.le_refl _, fun _ k hk => by omega⟩
  | succ n ih =>
    intro hn
    obtain ⟨h0, h1, h2⟩ := ih (by omega)
    simp only [nfold, keptF]
    cases hb : keepB S N F S' N' m n with
    | false =>
      simp only [cond_false]
      refine ⟨h0, by omega, fun he k hk => ?_⟩
      rcases Nat.lt_or_ge k n with hlt | hge
      · exact h2 he k hlt
      · obtain rfl : k = n := by omega
        exact hb
    | true =>
      simp only [cond_true]
      rw [wrap_in (by omega) (by omega)]
      exact ⟨by omega, by omega, fun he => by omega⟩
end Go.Proofs.Ytkbhnomgkmeojaa
