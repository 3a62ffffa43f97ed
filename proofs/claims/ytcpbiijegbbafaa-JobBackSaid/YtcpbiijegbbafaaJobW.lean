/- What both writers lay, in plain numbers. No condition. -/
import Derived.Test.YtcpbiijegbbafaaJobNum
import Derived.Test.YtcpbiijegbbafaaLoopA
set_option linter.unusedVariables false
set_option linter.unusedSimpArgs false
namespace Go.Proofs.Ytcpbiijegbbafaa
open Go.RowKit

/-- Pieces, one behind the other. -/
def catF (f : Nat → List Int) : Nat → List Int
  | 0 => []
  | n + 1 => catF f n ++ f n
theorem catF_congr {f g : Nat → List Int} : ∀ {n : Nat}, (∀ k, k < n → f k = g k) → catF f n = catF g n := by
  intro n
  induction n with
  | zero => intro _; rfl
  | succ n ih => intro h; simp only [catF]; rw [ih fun k hk => h k (by omega), h n (by omega)]
theorem w_loop {step : (Int × List (List Ct)) → Option ((Int × List (List Ct)) ⊕ (Int × List (List Ct)))} {n : Nat} (g : Nat → List Int) (m B : Nat)
    (hin : ∀ (k : Nat) r, k < n → r.length ≤ B + m * k → ∃ r', step ((k : Int), r) = some (.inl (((k + 1 : Nat) : Int), r')) ∧ r'.length ≤ r.length + m ∧ col r' = col r ++ g k) (hout : ∀ r, step ((n : Int), r) = some (.inr ((n : Int), r))) {fuel : Nat} (hf : n < fuel) {r0 : List (List Ct)} (h0 : r0.length ≤ B) :
    ∃ r', iter step fuel (0, r0) = some ((n : Int), r') ∧ r'.length ≤ r0.length + m * n ∧ col r' = col r0 ++ catF g n := by
  have main : ∀ (d k fuel : Nat) (r : List (List Ct)), k + d = n → d < fuel → r.length ≤ r0.length + m * k → col r = col r0 ++ catF g k → ∃ r', iter step fuel ((k : Int), r) = some ((n : Int), r') ∧ r'.length ≤ r0.length + m * n ∧ col r' = col r0 ++ catF g n := by
    intro d
    induction d with
    | zero =>
      intro k fuel r hk hf hl hc
      obtain ⟨fuel, rfl⟩ : ∃ k, fuel = k + 1 := ⟨fuel - 1, by omega⟩
      obtain rfl : k = n := by omega
      exact ⟨r, iter_inr (hout r), hl, hc⟩
    | succ d ih =>
      intro k fuel r hk hf hl hc
      obtain ⟨fuel, rfl⟩ : ∃ k, fuel = k + 1 := ⟨fuel - 1, by omega⟩
      obtain ⟨r', h1, h2, h3⟩ := hin k r (by omega) (by omega)
      rw [iter_inl h1]
      refine ih (k + 1) fuel r' (by omega) (by omega) (by rw [Nat.mul_succ]; omega) ?_
      rw [h3, hc, List.append_assoc]; rfl
  have := main n 0 fuel r0 (by omega) hf (by omega) (by simp [catF])
  simpa using this
theorem wra_okN {r : List (List Ct)} {x N : Int} (n : Nat) (hN : N = (n : Int)) (hr : r.length + n ≤ 1000000000) : (wra_res r x N).isSome = true ∧ (wra_v r x N).length = r.length + n ∧ col (wra_v r x N) = col r ++ byt n x := by subst hN; exact wra_ok n hr
theorem wrn_okN {x N : Int} (n : Nat) (hN : N = (n : Int)) (hr : n ≤ 1000000000) : (wrn_res x N).isSome = true ∧ (wrn_v x N).length = n ∧ col (wrn_v x N) = byt n x := by subst hN; exact wrn_ok n hr
theorem w_bind {α : Type} {R : List (List Ct)} {X N : Int} {rest : Option α} {Q : α → Prop} (n : Nat) (hN : N = (n : Int)) (hr : R.length + n ≤ 1000000000) (h : (wra_v R X N).length = R.length + n → col (wra_v R X N) = col R ++ byt n X → ∃ u, rest = some u ∧ Q u) : ∃ u, (bif (wra_res R X N).isSome then rest else none) = some u ∧ Q u := by
  obtain ⟨h1, h2, h3⟩ := wra_okN (r := R) (x := X) n hN hr
  rw [h1]; exact h h2 h3
theorem wn_bind {α : Type} {X N : Int} {rest : Option α} {Q : α → Prop} (n : Nat) (hN : N = (n : Int)) (hr : n ≤ 1000000000) (h : (wrn_v X N).length = n → col (wrn_v X N) = byt n X → ∃ u, rest = some u ∧ Q u) : ∃ u, (bif (wrn_res X N).isSome then rest else none) = some u ∧ Q u := by
  obtain ⟨h1, h2, h3⟩ := wrn_okN (x := X) n hN hr
  rw [h1]; exact h h2 h3
theorem step_of {β : Type} {o : Option ((Int × List (List Ct)) ⊕ β)} {K : Int} {Q : List (List Ct) → Prop} (h : ∃ u, o = some u ∧ ∃ r', u = .inl (K, r') ∧ Q r') : ∃ r', o = some (.inl (K, r')) ∧ Q r' := by
  obtain ⟨u, h1, r', h2, h3⟩ := h
  exact ⟨r', by rw [h1, h2], h3⟩
theorem bind_dec {α : Type} {c : Prop} [Decidable c] {rest : Option α} {Q : α → Prop} (hc : c) (h : ∃ u, rest = some u ∧ Q u) : ∃ u, (bif decide c then rest else none) = some u ∧ Q u := by rw [decide_eq_true hc]; exact h
/-- A number's lowest bytes, of whatever sign. -/
def bw (n : Nat) (x : Int) : List Int := byt n (IntKind.u64.wrap x)
theorem bw_length {n : Nat} {x : Int} : (bw n x).length = n := byt_length _ _
theorem bw_one {x : Int} : bw 1 x = [IntKind.u8.wrap x] := by
  simp only [bw, byt, u8_mod, u64_mod]
  congr 1
  omega
/-- A point's bytes. -/
def b3 (x y z : Int) : List Int := bw 5 x ++ (bw 5 y ++ bw 5 z)
theorem b3_length {x y z : Int} : (b3 x y z).length = 15 := by simp [b3, bw_length]
/-- A header's, a paint's, a key's, a joint's, a shape's bytes. -/
def bH (x0 x1 x2 x3 x4 x5 x6 x7 x8 x9 x10 x11 x12 : Int) : List Int := bw 2 x0 ++ (bw 2 x1 ++ (bw 2 x2 ++ (bw 2 x3 ++ (bw 2 x4 ++ (bw 5 x5 ++ (byt 8 x6 ++ (b3 x7 x8 x9 ++ (bw 2 x10 ++ (bw 2 x11 ++ bw 5 x12)))))))))
def bP (l : List (List Ct)) (k : Nat) : List Int := bw 1 (rd l k 0).int ++ (b3 (rd l k 1).int (rd l k 2).int (rd l k 3).int ++ bw 5 (rd l k 4).int)
def bK (l : List (List Ct)) (k : Nat) : List Int := bw 5 (rd l k 0).int ++ b3 (rd l k 1).int (rd l k 2).int (rd l k 3).int
def bT (l : List (List Ct)) (k : Nat) : List Int := bw 1 (rd l k 0).int ++ (bw 1 ((rd l k 1).rows.length : Int) ++ catF (bK (rd l k 1).rows) (rd l k 1).rows.length)
def bJ (l : List (List Ct)) (k : Nat) : List Int := bw 2 (rd l k 0).int ++ (bw 2 (rd l k 1).int ++ (bw 2 (rd l k 2).int ++ bw 5 (rd l k 3).int))
def bS13 (a0 a1 a2 a3 a4 a5 a6 a7 a8 a9 a10 a11 a12 : Int) : List Int := bw 2 a0 ++ (bw 2 a1 ++ (bw 1 a2 ++ (b3 a3 a4 a5 ++ if a2 = 0 then bw 5 a12 else b3 a6 a7 a8 ++ b3 a9 a10 a11)))
def bS (l : List (List Ct)) (k : Nat) : List Int := bS13 (rd l k 0).int (rd l k 1).int (rd l k 2).int (rd l k 3).int (rd l k 4).int (rd l k 5).int (rd l k 6).int (rd l k 7).int (rd l k 8).int (rd l k 9).int (rd l k 10).int (rd l k 11).int (rd l k 12).int
/-- What stands ahead; how many there are. -/
def bM : List Int := [90, 79, 69, 49]
def bN (P T J S : List (List Ct)) : List Int := bw 1 (P.length : Int) ++ (bw 1 (T.length : Int) ++ (bw 1 (J.length : Int) ++ bw 1 (S.length : Int)))
/-- A scene's bytes. -/
def bScene (x0 x1 x2 x3 x4 x5 x6 x7 x8 x9 x10 x11 x12 : Int) (P T J S : List (List Ct)) : List Int := bM ++ (bH x0 x1 x2 x3 x4 x5 x6 x7 x8 x9 x10 x11 x12 ++ (bN P T J S ++ (catF (bP P) P.length ++ (catF (bT T) T.length ++ (catF (bJ J) J.length ++ catF (bS S) S.length)))))
theorem len_loop {o : Option (Int × List (List Ct))} {n : Int} {r' : List (List Ct)} (h : o = some (n, r')) : o.isSome = true ∧ (o.getD default).2 = r' := by rw [h]; exact ⟨rfl, rfl⟩
theorem idx_ok {k n : Nat} (h : k < n) : (k : Int) < (n : Int) ∧ ((0 : Int) ≤ (k : Int) ∧ (k : Int) < (n : Int)) := by omega

theorem whd_ok {R : List (List Ct)} {x0 x1 x2 x3 x4 x5 x6 x7 x8 x9 x10 x11 x12 : Int} (hr : R.length ≤ 800000000) : (whd_res R x0 x1 x2 x3 x4 x5 x6 x7 x8 x9 x10 x11 x12).isSome = true ∧ (whd_v R x0 x1 x2 x3 x4 x5 x6 x7 x8 x9 x10 x11 x12).length = R.length + 47 ∧ col (whd_v R x0 x1 x2 x3 x4 x5 x6 x7 x8 x9 x10 x11 x12) = col R ++ bH x0 x1 x2 x3 x4 x5 x6 x7 x8 x9 x10 x11 x12 := by
  have h : ∃ u, whd_res R x0 x1 x2 x3 x4 x5 x6 x7 x8 x9 x10 x11 x12 = some u ∧ u.length = R.length + 47 ∧ col u = col R ++ bH x0 x1 x2 x3 x4 x5 x6 x7 x8 x9 x10 x11 x12 := by
    simp only [whd_res, whd_c12906849, whd_c16333990, whd_c24100239, whd_c25285356, whd_c25842588, whd_c28017775, whd_c37042478, whd_c5152477, whd_c60140274, whd_c6016345, whd_c71303482, whd_c74494897, whd_c80346988]
    refine w_bind 2 (by rfl) (by omega) fun l0 k0 => ?_
    refine w_bind 2 (by rfl) (by omega) fun l1 k1 => ?_
    refine w_bind 2 (by rfl) (by omega) fun l2 k2 => ?_
    refine w_bind 2 (by rfl) (by omega) fun l3 k3 => ?_
    refine w_bind 2 (by rfl) (by omega) fun l4 k4 => ?_
    refine w_bind 5 (by rfl) (by omega) fun l5 k5 => ?_
    refine w_bind 8 (by rfl) (by omega) fun l6 k6 => ?_
    refine w_bind 5 (by rfl) (by omega) fun l7 k7 => ?_
    refine w_bind 5 (by rfl) (by omega) fun l8 k8 => ?_
    refine w_bind 5 (by rfl) (by omega) fun l9 k9 => ?_
    refine w_bind 2 (by rfl) (by omega) fun l10 k10 => ?_
    refine w_bind 2 (by rfl) (by omega) fun l11 k11 => ?_
    refine w_bind 5 (by rfl) (by omega) fun l12 k12 => ?_
    refine ⟨_, rfl, by omega, ?_⟩
    rw [k12, k11, k10, k9, k8, k7, k6, k5, k4, k3, k2, k1, k0]
    simp only [bH, bw, b3, List.append_assoc]
  obtain ⟨u, h1, h2, h3⟩ := h
  have hv : whd_v R x0 x1 x2 x3 x4 x5 x6 x7 x8 x9 x10 x11 x12 = u := by unfold whd_v; rw [h1]; rfl
  exact ⟨by rw [h1]; rfl, by rw [hv]; exact h2, by rw [hv]; exact h3⟩

theorem wsh_ok {R : List (List Ct)} {a0 a1 a2 a3 a4 a5 a6 a7 a8 a9 a10 a11 a12 : Int} (hr : R.length ≤ 800000000) : (wsh_res R a0 a1 a2 a3 a4 a5 a6 a7 a8 a9 a10 a11 a12).isSome = true ∧ (wsh_v R a0 a1 a2 a3 a4 a5 a6 a7 a8 a9 a10 a11 a12).length ≤ R.length + 50 ∧ col (wsh_v R a0 a1 a2 a3 a4 a5 a6 a7 a8 a9 a10 a11 a12) = col R ++ bS13 a0 a1 a2 a3 a4 a5 a6 a7 a8 a9 a10 a11 a12 := by
  have h : ∃ u, wsh_res R a0 a1 a2 a3 a4 a5 a6 a7 a8 a9 a10 a11 a12 = some u ∧ u.length ≤ R.length + 50 ∧ col u = col R ++ bS13 a0 a1 a2 a3 a4 a5 a6 a7 a8 a9 a10 a11 a12 := by
    by_cases hk : a2 = 0
    · have hb : (a2 == 0) = true := by simpa using hk
      simp only [wsh_res, hb, cond_true, wsh_c1190001, wsh_c12584167, wsh_c12749279, wsh_c15120542, wsh_c24100239, wsh_c32273029, wsh_c37810880, wsh_c47190594, wsh_c55022800, wsh_c66144220, wsh_c77631784, wsh_c88633606, wsh_c97279072, wsh_c99448128]
      refine w_bind 2 (by rfl) (by omega) fun l0 k0 => ?_
      refine w_bind 2 (by rfl) (by omega) fun l1 k1 => ?_
      refine w_bind 1 (by rfl) (by omega) fun l2 k2 => ?_
      refine w_bind 5 (by rfl) (by omega) fun l3 k3 => ?_
      refine w_bind 5 (by rfl) (by omega) fun l4 k4 => ?_
      refine w_bind 5 (by rfl) (by omega) fun l5 k5 => ?_
      refine w_bind 5 (by rfl) (by omega) fun l6 k6 => ?_
      refine ⟨_, rfl, by omega, ?_⟩
      rw [k6, k5, k4, k3, k2, k1, k0]
      simp only [bS13, if_pos hk, bw, b3, List.append_assoc]
    · have hb : (a2 == 0) = false := by simpa using hk
      simp only [wsh_res, hb, cond_false, wsh_c1190001, wsh_c12584167, wsh_c12749279, wsh_c15120542, wsh_c24100239, wsh_c32273029, wsh_c37810880, wsh_c47190594, wsh_c55022800, wsh_c66144220, wsh_c77631784, wsh_c88633606, wsh_c97279072, wsh_c99448128]
      refine w_bind 2 (by rfl) (by omega) fun l0 k0 => ?_
      refine w_bind 2 (by rfl) (by omega) fun l1 k1 => ?_
      refine w_bind 1 (by rfl) (by omega) fun l2 k2 => ?_
      refine w_bind 5 (by rfl) (by omega) fun l3 k3 => ?_
      refine w_bind 5 (by rfl) (by omega) fun l4 k4 => ?_
      refine w_bind 5 (by rfl) (by omega) fun l5 k5 => ?_
      refine w_bind 5 (by rfl) (by omega) fun l6 k6 => ?_
      refine w_bind 5 (by rfl) (by omega) fun l7 k7 => ?_
      refine w_bind 5 (by rfl) (by omega) fun l8 k8 => ?_
      refine w_bind 5 (by rfl) (by omega) fun l9 k9 => ?_
      refine w_bind 5 (by rfl) (by omega) fun l10 k10 => ?_
      refine w_bind 5 (by rfl) (by omega) fun l11 k11 => ?_
      refine ⟨_, rfl, by omega, ?_⟩
      rw [k11, k10, k9, k8, k7, k6, k5, k4, k3, k2, k1, k0]
      simp only [bS13, if_neg hk, bw, b3, List.append_assoc]
  obtain ⟨u, h1, h2, h3⟩ := h
  have hv : wsh_v R a0 a1 a2 a3 a4 a5 a6 a7 a8 a9 a10 a11 a12 = u := by unfold wsh_v; rw [h1]; rfl
  exact ⟨by rw [h1]; rfl, by rw [hv]; exact h2, by rw [hv]; exact h3⟩

theorem wtr_it {R0 K : List (List Ct)} (hK : K.length ≤ 1048576) (h0 : R0.length ≤ 700000000) : ∃ r', iter (wtr_L0_step K) (K.length + 1) (0, R0) = some ((K.length : Int), r') ∧ r'.length ≤ R0.length + 20 * K.length ∧ col r' = col R0 ++ catF (bK K) K.length := by
  refine w_loop (step := wtr_L0_step K) (bK K) 20 700000000 (fun k r hk hr => ?_) (fun r => ?_) (by omega) h0
  · obtain ⟨q1, q2⟩ := idx_ok hk
    simp only [wtr_L0_step, cond_dec q1, cond_dec q2, Int.toNat_natCast, wrap_succ (k := k) (by omega), wtr_c24931914, wtr_c31238073, wtr_c59202717, wtr_c6271776, wtr_c85190786, wtr_c94068696]
    refine step_of ?_
    refine w_bind 5 (by rfl) (by omega) fun l0 k0 => ?_
    refine w_bind 5 (by rfl) (by omega) fun l1 k1 => ?_
    refine w_bind 5 (by rfl) (by omega) fun l2 k2 => ?_
    refine w_bind 5 (by rfl) (by omega) fun l3 k3 => ?_
    refine ⟨_, rfl, _, rfl, by omega, ?_⟩
    rw [k3, k2, k1, k0]
    simp only [bK, bw, b3, List.append_assoc]
  · have q : ¬ ((K.length : Int) < (K.length : Int)) := by omega
    simp only [wtr_L0_step, cond_not q]

theorem wtr_ok {R K : List (List Ct)} {w : Int} (hK : K.length ≤ 1048576) (hr : R.length ≤ 600000000) : (wtr_res R w K).isSome = true ∧ (wtr_v R w K).length ≤ R.length + 2 + 20 * K.length ∧ col (wtr_v R w K) = col R ++ (bw 1 w ++ (bw 1 (K.length : Int) ++ catF (bK K) K.length)) := by
  obtain ⟨g1, g2, g3⟩ := wra_okN (r := R) (x := IntKind.u64.wrap w) (N := 1) 1 rfl (by omega)
  obtain ⟨g4, g5, g6⟩ := wra_okN (r := wra_v R (IntKind.u64.wrap w) 1) (x := IntKind.u64.wrap (K.length : Int)) (N := 1) 1 rfl (by omega)
  obtain ⟨r', h1, h2, h3⟩ := wtr_it (R0 := wra_v (wra_v R (IntKind.u64.wrap w) 1) (IntKind.u64.wrap (K.length : Int)) 1) hK (by omega)
  have p1 : wtr_L0_p R w K = true := by unfold wtr_L0_p; show (iter (wtr_L0_step K) (K.length + 1) (0, _)).isSome = true; exact (congrArg Option.isSome h1).trans rfl
  have p2 : (wtr_L0_v R w K).2 = r' := by
    have : wtr_L0_v R w K = ((K.length : Int), r') := by unfold wtr_L0_v loopRes; exact congrArg (fun o : Option (Int × List (List Ct)) => o.getD default) h1
    rw [this]
  have h : wtr_res R w K = some r' := by
    simp only [wtr_res, p1, p2, wtr_c24931914, wtr_c31238073, wtr_c59202717, wtr_c6271776, wtr_c85190786, wtr_c94068696]
    rw [g1, g4]; rfl
  have hv : wtr_v R w K = r' := by unfold wtr_v; rw [h]; rfl
  refine ⟨by rw [h]; rfl, by rw [hv]; omega, ?_⟩
  rw [hv, h3, g6, g3]
  simp only [bw, List.append_assoc]
end Go.Proofs.Ytcpbiijegbbafaa
