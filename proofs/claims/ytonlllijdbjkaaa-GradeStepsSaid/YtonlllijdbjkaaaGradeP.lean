/- How high a curve is: both answers in closed form. No condition. -/
import Derived.Test.YtonlllijdbjkaaaEngGrade2
set_option linter.unusedVariables false
set_option linter.unusedSimpArgs false
namespace Go.Proofs.Ytonlllijdbjkaaa
open Go.RowKit

def betS (a0 a1 b0 b1 X : Int) : Int := a1 + (b1 - a1) * (X - a0) / (b0 - a0)
theorem prod_bd {p q : Int} (hp : -33554432 ≤ p ∧ p ≤ 33554432) (hq : -2164260864 ≤ q ∧ q ≤ 2164260864) : -72620543991349248 ≤ p * q ∧ p * q ≤ 72620543991349248 := by
  have h := Nat.mul_le_mul (show p.natAbs ≤ 33554432 by omega) (show q.natAbs ≤ 2164260864 by omega)
  rw [← Int.natAbs_mul] at h
  omega
theorem floor_t {n d : Int} (hd : 0 < d) : (if n.tmod d < 0 then n.tdiv d - 1 else n.tdiv d) = n / d := by
  have h1 := Int.tmod_add_mul_tdiv n d
  have h2 := Int.tmod_lt_of_pos n hd
  have h3 := Int.lt_tmod_of_pos n hd
  split
  · refine ((Int.ediv_emod_unique hd (q := n.tdiv d - 1) (r := n.tmod d + d)).2 ⟨?_, by omega, by omega⟩).1.symm
    rw [Int.mul_sub, Int.mul_one]; omega
  · exact ((Int.ediv_emod_unique hd (q := n.tdiv d) (r := n.tmod d)).2 ⟨h1, by omega, h2⟩).1.symm
section
variable {a0 a1 b0 b1 X : Int} (ha0 : -16777216 ≤ a0 ∧ a0 ≤ 16777216) (ha1 : -16777216 ≤ a1 ∧ a1 ≤ 16777216) (hb0 : -16777216 ≤ b0 ∧ b0 ≤ 16777216) (hb1 : -16777216 ≤ b1 ∧ b1 ≤ 16777216) (h : a0 < b0) (hX : -2147483648 ≤ X ∧ X ≤ 2147483648)
include ha0 ha1 hb0 hb1 h hX
theorem bet_all : IntKind.i64.wrap (b0 - a0) = b0 - a0 ∧ IntKind.i64.wrap (IntKind.i64.wrap (b1 - a1) * IntKind.i64.wrap (X - a0)) = (b1 - a1) * (X - a0) := by
  have hp := prod_bd (p := b1 - a1) (q := X - a0) (by omega) (by omega)
  rw [wrap_in (n := b0 - a0) (by omega) (by omega), wrap_in (n := b1 - a1) (by omega) (by omega), wrap_in (n := X - a0) (by omega) (by omega), wrap_in (by omega) (by omega)]
  exact ⟨rfl, rfl⟩
theorem bet_prog : IntKind.i64.wrap (a1 + bif decide ((IntKind.i64.wrap (IntKind.i64.wrap (b1 - a1) * IntKind.i64.wrap (X - a0))).tmod (IntKind.i64.wrap (b0 - a0)) < (0 : Int)) then IntKind.i64.wrap (IntKind.i64.wrap ((IntKind.i64.wrap (IntKind.i64.wrap (b1 - a1) * IntKind.i64.wrap (X - a0))).tdiv (IntKind.i64.wrap (b0 - a0))) - (1 : Int)) else IntKind.i64.wrap ((IntKind.i64.wrap (IntKind.i64.wrap (b1 - a1) * IntKind.i64.wrap (X - a0))).tdiv (IntKind.i64.wrap (b0 - a0)))) = betS a0 a1 b0 b1 X := by
  obtain ⟨e1, e2⟩ := bet_all ha0 ha1 hb0 hb1 h hX
  have hp := prod_bd (p := b1 - a1) (q := X - a0) (by omega) (by omega)
  rw [e1, e2]
  unfold betS
  generalize (b1 - a1) * (X - a0) = N at hp ⊢
  have ht := tdiv_bd N (b0 - a0) (by omega) (by omega)
  have hf := floor_t (n := N) (d := b0 - a0) (by omega)
  have ha : (N.tdiv (b0 - a0)).natAbs ≤ N.natAbs := by rw [Int.natAbs_tdiv]; exact Nat.div_le_self _ _
  rw [← hf, wrap_in (n := N.tdiv (b0 - a0)) (by omega) (by omega), wrap_in (n := N.tdiv (b0 - a0) - 1) (by omega) (by omega), Bool.cond_decide]
  exact wrap_in (by split <;> omega) (by split <;> omega)
theorem bet_ref : IntKind.i64.wrap (a1 + IntKind.i64.wrap ((IntKind.i64.wrap (IntKind.i64.wrap (IntKind.i64.wrap (b1 - a1) * IntKind.i64.wrap (X - a0)) - bif decide ((IntKind.i64.wrap (IntKind.i64.wrap (b1 - a1) * IntKind.i64.wrap (X - a0))).tmod (IntKind.i64.wrap (b0 - a0)) < (0 : Int)) then IntKind.i64.wrap ((IntKind.i64.wrap (IntKind.i64.wrap (b1 - a1) * IntKind.i64.wrap (X - a0))).tmod (IntKind.i64.wrap (b0 - a0)) + IntKind.i64.wrap (b0 - a0)) else (IntKind.i64.wrap (IntKind.i64.wrap (b1 - a1) * IntKind.i64.wrap (X - a0))).tmod (IntKind.i64.wrap (b0 - a0)))).tdiv (IntKind.i64.wrap (b0 - a0)))) = betS a0 a1 b0 b1 X := by
  obtain ⟨e1, e2⟩ := bet_all ha0 ha1 hb0 hb1 h hX
  have hp := prod_bd (p := b1 - a1) (q := X - a0) (by omega) (by omega)
  rw [e1, e2]
  unfold betS
  generalize (b1 - a1) * (X - a0) = N at hp ⊢
  have hd : 0 < b0 - a0 := by omega
  have h2 := Int.tmod_lt_of_pos N hd
  have h3 := Int.lt_tmod_of_pos N hd
  have hf := floor_t (n := N) (d := b0 - a0) hd
  have ha : (N.tdiv (b0 - a0)).natAbs ≤ N.natAbs := by rw [Int.natAbs_tdiv]; exact Nat.div_le_self _ _
  have hq : -72620543991349249 ≤ N / (b0 - a0) ∧ N / (b0 - a0) ≤ 72620543991349248 := by rw [← hf]; split <;> omega
  have hc := down_core N (b0 - a0) hd
  rw [wrap_in (n := N.tmod (b0 - a0) + (b0 - a0)) (by omega) (by omega), Bool.cond_decide]
  have e3 : (IntKind.i64.wrap (N - if N.tmod (b0 - a0) < 0 then N.tmod (b0 - a0) + (b0 - a0) else N.tmod (b0 - a0))).tdiv (b0 - a0) = N / (b0 - a0) := by
    rw [wrap_in (by split <;> omega) (by split <;> omega), ← hc]
    split <;> rfl
  rw [e3, wrap_in (n := N / (b0 - a0)) (by omega) (by omega)]
  exact wrap_in (by omega) (by omega)
end
def lastF (l : List (List Ct)) (X : Int) (k : Nat) (a : Int) : Int := if (rd l k 0).int < X then (k : Int) else a
def lastS (l : List (List Ct)) (X : Int) (n : Nat) : Int := nfold (lastF l X) n (-1)
theorem last_spec {l : List (List Ct)} {X : Int} : ∀ n, (lastS l X n = -1 ∧ ∀ k, k < n → X ≤ (rd l k 0).int) ∨ ∃ i, i < n ∧ lastS l X n = (i : Int) ∧ (rd l i 0).int < X ∧ ∀ j, i < j → j < n → X ≤ (rd l j 0).int := by
  intro n
  induction n with
  | zero => left; exact ⟨rfl, fun k hk => by omega⟩
  | succ n ih =>
    have e : lastS l X (n + 1) = if (rd l n 0).int < X then (n : Int) else lastS l X n := rfl
    by_cases h : (rd l n 0).int < X
    · right; exact ⟨n, by omega, by rw [e, if_pos h], h, fun j h1 h2 => by omega⟩
    · rw [e, if_neg h]
      rcases ih with ⟨h1, h2⟩ | ⟨i, h1, h2, h3, h4⟩
      · left
        refine ⟨h1, fun k hk => ?_⟩
        rcases Nat.lt_or_ge k n with hkn | hkn
        · exact h2 k hkn
        · obtain rfl : k = n := by omega
          omega
      · right
        refine ⟨i, by omega, h2, h3, fun j hj1 hj2 => ?_⟩
        rcases Nat.lt_or_ge j n with hkn | hkn
        · exact h4 j hj1 hkn
        · obtain rfl : j = n := by omega
          omega
theorem RightP.mono {l : List (List Ct)} (h : RightP l) : ∀ {j i : Nat}, j < i → i < l.length → (rd l j 0).int < (rd l i 0).int := by
  intro j i hij hi
  induction i with
  | zero => omega
  | succ i ih =>
    have hu := (h.pin (i + 1) hi).up (by omega)
    rw [Nat.add_sub_cancel] at hu
    rcases Nat.lt_or_ge j i with hji | hji
    · have := ih hji (by omega); omega
    · obtain rfl : j = i := by omega
      exact hu
def atS (l : List (List Ct)) (X : Int) : Int :=
  if lastS l X l.length < 0 then (rd l 0 1).int else if lastS l X l.length = (l.length : Int) - 1 then (rd l (lastS l X l.length).toNat 1).int else
    betS (rd l (lastS l X l.length).toNat 0).int (rd l (lastS l X l.length).toNat 1).int (rd l ((lastS l X l.length).toNat + 1) 0).int (rd l ((lastS l X l.length).toNat + 1) 1).int X
noncomputable def atV (l : List (List Ct)) (x : Int) : Int := bif rightS l then atS l (heldS x) else 0
theorem iter_until {R : Type} {step : Int → Option (Int ⊕ R)} {j : Nat} {r : R} (h1 : ∀ k, k < j → step (k : Int) = some (.inl ((k + 1 : Nat) : Int))) (h2 : step (j : Int) = some (.inr r)) : ∀ (d k m : Nat), k + d = j → d < m → iter step m (k : Int) = some r := by
  intro d
  induction d with
  | zero =>
    intro k m hk hm
    obtain ⟨m, rfl⟩ : ∃ m', m = m' + 1 := ⟨m - 1, by omega⟩
    obtain rfl : k = j := by omega
    simp only [iter, h2]
  | succ d ih =>
    intro k m hk hm
    obtain ⟨m, rfl⟩ : ∃ m', m = m' + 1 := ⟨m - 1, by omega⟩
    simp only [iter, h1 k (by omega)]
    exact ih (k + 1) m (by omega) (by omega)
theorem RightP.bd {l : List (List Ct)} (h : RightP l) {k : Nat} (hk : k < l.length) : (-16777216 ≤ (rd l k 0).int ∧ (rd l k 0).int ≤ 16777216) ∧ (-16777216 ≤ (rd l k 1).int ∧ (rd l k 1).int ≤ 16777216) :=
  ⟨⟨(h.pin k hk).x0, (h.pin k hk).x1⟩, ⟨(h.pin k hk).y0, (h.pin k hk).y1⟩⟩
theorem rat_at (x0 : List (List Ct)) (x1 : Int) : rat_res x0 x1 = some (atV x0 x1) := by
  by_cases hr : RightP x0
  rotate_left
  · simp [rat_res, rright_v, atV, rightS_false hr]
  have hn := hr.n0
  have hn1 := hr.n1
  have hX := heldS_bd x1
  generalize hXe : heldS x1 = X at hX
  have it := iter_range (step := rat_L0_step x0 x1) (A := Int) (fun k a => (a, (k : Int))) (fun _ _ => True) (f := lastF x0 X) (out := fun a => (a, (x0.length : Int))) (n := x0.length) (m := x0.length + 1) (v := ((-1), 0)) (a0 := -1) rfl (by omega)
    (fun k hk a _ => ⟨by
      have w : IntKind.i64.wrap ((k : Int) + 1) = (k : Int) + 1 := wrap_in (by omega) (by omega)
      simp [rat_L0_step, hk, w, lastF, hXe, Bool.cond_decide], trivial⟩) (fun a _ => by simp [rat_L0_step]) trivial
  have p : rat_L0_p x0 x1 = true := by unfold rat_L0_p; rw [it, Option.isSome_some]
  have v : rat_L0_v x0 x1 = (lastS x0 X x0.length, (x0.length : Int)) := by unfold rat_L0_v loopRes; rw [it, Option.getD_some]; rfl
  have z : Int.toNat (0 : Int) = 0 := rfl
  have o1 : (0 : Int) < x0.length := by omega
  have wl : IntKind.i64.wrap ((x0.length : Int) - 1) = (x0.length : Int) - 1 := wrap_in (by omega) (by omega)
  rcases last_spec (l := x0) (X := X) x0.length with ⟨h1, h2⟩ | ⟨i, h1, h2, h3, h4⟩
  · have hn' : 0 < x0.length := by omega
    simp [rat_res, rright_v, atV, rightS_true hr, p, v, hXe, atS, h1, o1, hn']
  · have wi : IntKind.i64.wrap ((i : Int) + 1) = (i : Int) + 1 := wrap_in (by omega) (by omega)
    have ni : ¬ (i : Int) < 0 := by omega
    by_cases hl : (i : Int) = (x0.length : Int) - 1
    · have wi0 : IntKind.i64.wrap (i : Int) = (i : Int) := wrap_in (by omega) (by omega)
      simp [rat_res, rright_v, atV, rightS_true hr, p, v, hXe, atS, h2, ← hl, wi0, ni, h1]
    · have hi1 : i + 1 < x0.length := by omega
      have hm := hr.mono (j := i) (i := i + 1) (by omega) hi1
      have A := hr.bd h1
      have B := hr.bd hi1
      have hb := bet_ref A.1 A.2 B.1 B.2 hm hX
      have ti : ((i : Int) + 1).toNat = i + 1 := by omega
      have wd : IntKind.i64.wrap ((rd x0 (i + 1) 0).int - (rd x0 i 0).int) = (rd x0 (i + 1) 0).int - (rd x0 i 0).int := wrap_in (by omega) (by omega)
      have dne : decide ((rd x0 (i + 1) 0).int - (rd x0 i 0).int ≠ 0) = true := by simp; omega
      have f1 : ((i : Int) == (x0.length : Int) - 1) = false := by simp; exact hl
      have d0 : decide ((0 : Int) ≤ (i : Int) ∧ (i : Int) < (x0.length : Int)) = true := by simp; omega
      have d1 : decide ((0 : Int) ≤ (i : Int) + 1 ∧ (i : Int) + 1 < (x0.length : Int)) = true := by simp; omega
      have r1 : rright_v x0 = true := rightS_true hr
      simp only [wd] at hb
      simp only [rat_res, r1, atV, rightS_true hr, p, v, hXe, h2, wl, wi, ti, Int.toNat_natCast, ni, decide_false, f1, d0, d1, wd, dne, hb, Bool.not_true, cond_true, cond_false, atS, if_neg ni, if_neg hl, if_false]
theorem cat_at (x0 : List (List Ct)) (x1 : Int) : cat_res x0 x1 = some (atV x0 x1) := by
  by_cases hr : RightP x0
  rotate_left
  · simp [cat_res, cright_v, atV, rightS_false hr]
  have hn := hr.n0
  have hn1 := hr.n1
  have hX := heldS_bd x1
  generalize hXe : heldS x1 = X at hX
  have r1 : cright_v x0 = true := rightS_true hr
  have z : Int.toNat (0 : Int) = 0 := rfl
  have o1 : (0 : Int) < x0.length := by omega
  have rl : (partOf x0 (1 : Int) (x0.length : Int)).length = x0.length - 1 := rest_length
  have wl : IntKind.i64.wrap ((x0.length : Int) - 1) = (x0.length : Int) - 1 := wrap_in (by omega) (by omega)
  have tl : ((x0.length : Int) - 1).toNat = x0.length - 1 := by omega
  have c0 : decide ((0 : Int) ≤ (0 : Int) ∧ (0 : Int) < (x0.length : Int)) = true := by simp; omega
  have c1 : decide ((0 : Int) ≤ (1 : Int) ∧ (1 : Int) ≤ (x0.length : Int) ∧ (x0.length : Int) ≤ (x0.length : Int)) = true := by simp; omega
  rcases last_spec (l := x0) (X := X) x0.length with ⟨h1, h2⟩ | ⟨i, h1, h2, h3, h4⟩
  · have q := h2 0 (by omega)
    simp only [cat_res, r1, atV, rightS_true hr, hXe, z, c0, q, Bool.not_true, cond_true, cond_false, decide_true, atS, h1]
    rfl
  · have ni : ¬ (i : Int) < 0 := by omega
    have q : ¬ X ≤ (rd x0 0 0).int := by
      rcases Nat.eq_zero_or_pos i with rfl | hi
      · omega
      · have := hr.mono hi h1; omega
    have hgo : ∀ k, k < i → cat_L0_step x0 x1 (k : Int) = some (.inl ((k + 1 : Nat) : Int)) := by
      intro k hk
      have w : IntKind.i64.wrap ((k : Int) + 1) = (k : Int) + 1 := wrap_in (by omega) (by omega)
      have hx : ¬ X ≤ (rd x0 (k + 1) 0).int := by
        rcases Nat.lt_or_ge (k + 1) i with h | h
        · have := hr.mono h h1; omega
        · obtain rfl : k + 1 = i := by omega
          omega
      have e1 : rd (partOf x0 (1 : Int) (x0.length : Int)) k 0 = rd x0 (k + 1) 0 := rd_rest (by omega)
      have d1 : decide ((k : Int) < ((x0.length - 1 : Nat) : Int)) = true := by simp; omega
      have d2 : decide ((0 : Int) ≤ (k : Int) ∧ (k : Int) < ((x0.length - 1 : Nat) : Int)) = true := by simp; omega
      simp only [cat_L0_step, rl, d1, d2, Int.toNat_natCast, e1, hXe, hx, decide_false, w, cond_true, cond_false]
      rfl
    by_cases hl : (i : Int) = (x0.length : Int) - 1
    · have hend : cat_L0_step x0 x1 (i : Int) = some (.inr (.inl (i : Int))) := by
        have d1 : decide ((i : Int) < ((x0.length - 1 : Nat) : Int)) = false := by simp; omega
        simp only [cat_L0_step, rl, d1, cond_false]
      have it := iter_until hgo hend i 0 (x0.length + 1) (by omega) (by omega)
      have z0 : ((0 : Nat) : Int) = 0 := rfl
      rw [z0] at it
      have p : cat_L0_p x0 x1 = true := by unfold cat_L0_p; rw [it, Option.isSome_some]
      have v : isL (cat_L0_v x0 x1) = true := by unfold cat_L0_v; rw [it, Option.getD_some]; rfl
      have d3 : decide ((0 : Int) ≤ (x0.length : Int) - 1 ∧ (x0.length : Int) - 1 < (x0.length : Int)) = true := by simp; omega
      have tn : (i : Int).toNat = x0.length - 1 := by omega
      simp only [cat_res, r1, atV, rightS_true hr, hXe, z, c0, c1, q, p, v, wl, tl, d3, Bool.not_true, cond_true, cond_false, decide_false, atS, h2, if_neg ni, if_pos hl, tn, if_false]
    · have hi1 : i + 1 < x0.length := by omega
      have hm := hr.mono (j := i) (i := i + 1) (by omega) hi1
      have A := hr.bd h1
      have B := hr.bd hi1
      have hb := bet_prog A.1 A.2 B.1 B.2 hm hX
      have wd : IntKind.i64.wrap ((rd x0 (i + 1) 0).int - (rd x0 i 0).int) = (rd x0 (i + 1) 0).int - (rd x0 i 0).int := wrap_in (by omega) (by omega)
      have dne : decide ((rd x0 (i + 1) 0).int - (rd x0 i 0).int ≠ 0) = true := by simp; omega
      simp only [wd] at hb
      have hend : cat_L0_step x0 x1 (i : Int) = some (.inr (.inr (betS (rd x0 i 0).int (rd x0 i 1).int (rd x0 (i + 1) 0).int (rd x0 (i + 1) 1).int X))) := by
        have hx := h4 (i + 1) (by omega) hi1
        have e1 : ∀ c, rd (partOf x0 (1 : Int) (x0.length : Int)) i c = rd x0 (i + 1) c := fun c => rd_rest (by omega)
        have d1 : decide ((i : Int) < ((x0.length - 1 : Nat) : Int)) = true := by simp; omega
        have d2 : decide ((0 : Int) ≤ (i : Int) ∧ (i : Int) < ((x0.length - 1 : Nat) : Int)) = true := by simp; omega
        have d3 : decide ((0 : Int) ≤ (i : Int) ∧ (i : Int) < (x0.length : Int)) = true := by simp; omega
        simp only [cat_L0_step, rl, d1, d2, d3, Int.toNat_natCast, e1, hXe, hx, decide_true, wd, dne, hb, cond_true]
      have it := iter_until hgo hend i 0 (x0.length + 1) (by omega) (by omega)
      have z0 : ((0 : Nat) : Int) = 0 := rfl
      rw [z0] at it
      have p : cat_L0_p x0 x1 = true := by unfold cat_L0_p; rw [it, Option.isSome_some]
      have v : cat_L0_v x0 x1 = .inr (betS (rd x0 i 0).int (rd x0 i 1).int (rd x0 (i + 1) 0).int (rd x0 (i + 1) 1).int X) := by unfold cat_L0_v; rw [it, Option.getD_some]
      simp only [cat_res, r1, atV, rightS_true hr, hXe, z, c0, c1, q, p, v, isL, getR, Bool.not_true, cond_true, cond_false, decide_false, atS, h2, if_neg ni, if_neg hl, Int.toNat_natCast, if_false]
open Classical in
noncomputable def riseS (l : List (List Ct)) : Bool := decide (∀ k, k < l.length - 1 → (rd l k 1).int ≤ (rd l (k + 1) 1).int)
noncomputable def riseV (l : List (List Ct)) : Bool := bif rightS l then riseS l else false
theorem crise_loop (x0 : List (List Ct)) (hn : x0.length ≤ 1000) : crise_L0_p x0 = true ∧ isL (crise_L0_v x0) = riseS x0 := by
  have hstep : ∀ k, k < x0.length - 1 → ((rd x0 k 1).int ≤ (rd x0 (k + 1) 1).int → crise_L0_step x0 ((k + 1 : Nat) : Int) = some (.inl ((k + 1 + 1 : Nat) : Int))) ∧ (¬ (rd x0 k 1).int ≤ (rd x0 (k + 1) 1).int → crise_L0_step x0 ((k + 1 : Nat) : Int) = some (.inr (.inr ()))) := by
    intro k hk
    have w : IntKind.i64.wrap (((k + 1 : Nat) : Int) + 1) = ((k + 1 : Nat) : Int) + 1 := wrap_in (by omega) (by omega)
    have w2 : IntKind.i64.wrap (((k + 1 : Nat) : Int) - 1) = (k : Int) := by rw [wrap_in (by omega) (by omega)]; omega
    have d1 : decide (((k + 1 : Nat) : Int) < (x0.length : Int)) = true := by simp; omega
    have d2 : decide ((0 : Int) ≤ ((k + 1 : Nat) : Int) ∧ ((k + 1 : Nat) : Int) < (x0.length : Int)) = true := by simp; omega
    have d3 : decide ((0 : Int) ≤ (k : Int) ∧ (k : Int) < (x0.length : Int)) = true := by simp; omega
    refine ⟨fun h => ?_, fun h => ?_⟩
    · have e : decide ((rd x0 (k + 1) 1).int < (rd x0 k 1).int) = false := by simp; omega
      simp only [crise_L0_step, d1, d2, w, w2, d3, Int.toNat_natCast, e, cond_true, cond_false]
      rfl
    · have e : decide ((rd x0 (k + 1) 1).int < (rd x0 k 1).int) = true := by simp; omega
      simp only [crise_L0_step, d1, d2, w, w2, d3, Int.toNat_natCast, e, cond_true, cond_false]
  have hend : crise_L0_step x0 ((x0.length - 1 + 1 : Nat) : Int) = some (.inr (.inl ((x0.length - 1 + 1 : Nat) : Int))) := by
    have d1 : decide (((x0.length - 1 + 1 : Nat) : Int) < (x0.length : Int)) = false := by simp; omega
    simp only [crise_L0_step, d1, cond_false]
  obtain ⟨c1, c2⟩ := iter_check (P := fun k => (rd x0 k 1).int ≤ (rd x0 (k + 1) 1).int) 1 hstep hend (x0.length - 1) 0 (x0.length + 1) (by omega) (by omega)
  have z : ((0 + 1 : Nat) : Int) = 1 := rfl
  rw [z] at c1 c2
  by_cases hP : ∀ k, k < x0.length - 1 → (rd x0 k 1).int ≤ (rd x0 (k + 1) 1).int
  · have c := c1 fun j _ hj => hP j hj
    have r : riseS x0 = true := by simp [riseS]; exact hP
    exact ⟨by unfold crise_L0_p; rw [c, Option.isSome_some], by unfold crise_L0_v; rw [c, Option.getD_some, r]; rfl⟩
  · have hex : ∃ j, 0 ≤ j ∧ j < x0.length - 1 ∧ ¬ (rd x0 j 1).int ≤ (rd x0 (j + 1) 1).int := by
      apply Classical.byContradiction
      intro hc
      exact hP fun k hk => Classical.byContradiction fun hn => hc ⟨k, Nat.zero_le _, hk, hn⟩
    have c := c2 hex
    have r : riseS x0 = false := by unfold riseS; exact decide_eq_false hP
    exact ⟨by unfold crise_L0_p; rw [c, Option.isSome_some], by unfold crise_L0_v; rw [c, Option.getD_some, r]; rfl⟩
theorem rrise_loop (x0 : List (List Ct)) (hn : x0.length ≤ 1000) : rrise_L0_p x0 = true ∧ isL (rrise_L0_v x0) = riseS x0 := by
  have hstep : ∀ k, k < x0.length - 1 → ((rd x0 k 1).int ≤ (rd x0 (k + 1) 1).int → rrise_L0_step x0 ((k + 1 : Nat) : Int) = some (.inl ((k + 1 + 1 : Nat) : Int))) ∧ (¬ (rd x0 k 1).int ≤ (rd x0 (k + 1) 1).int → rrise_L0_step x0 ((k + 1 : Nat) : Int) = some (.inr (.inr ()))) := by
    intro k hk
    have w : IntKind.i64.wrap (((k + 1 : Nat) : Int) + 1) = ((k + 1 : Nat) : Int) + 1 := wrap_in (by omega) (by omega)
    have w2 : IntKind.i64.wrap (((k + 1 : Nat) : Int) - 1) = (k : Int) := by rw [wrap_in (by omega) (by omega)]; omega
    have d1 : decide (((k + 1 : Nat) : Int) < (x0.length : Int)) = true := by simp; omega
    have d2 : decide ((0 : Int) ≤ ((k + 1 : Nat) : Int) ∧ ((k + 1 : Nat) : Int) < (x0.length : Int)) = true := by simp; omega
    have d3 : decide ((0 : Int) ≤ (k : Int) ∧ (k : Int) < (x0.length : Int)) = true := by simp; omega
    refine ⟨fun h => ?_, fun h => ?_⟩
    · have e : decide ((rd x0 (k + 1) 1).int < (rd x0 k 1).int) = false := by simp; omega
      simp only [rrise_L0_step, d1, d2, w, w2, d3, Int.toNat_natCast, e, cond_true, cond_false]
      rfl
    · have e : decide ((rd x0 (k + 1) 1).int < (rd x0 k 1).int) = true := by simp; omega
      simp only [rrise_L0_step, d1, d2, w, w2, d3, Int.toNat_natCast, e, cond_true, cond_false]
  have hend : rrise_L0_step x0 ((x0.length - 1 + 1 : Nat) : Int) = some (.inr (.inl ((x0.length - 1 + 1 : Nat) : Int))) := by
    have d1 : decide (((x0.length - 1 + 1 : Nat) : Int) < (x0.length : Int)) = false := by simp; omega
    simp only [rrise_L0_step, d1, cond_false]
  obtain ⟨c1, c2⟩ := iter_check (P := fun k => (rd x0 k 1).int ≤ (rd x0 (k + 1) 1).int) 1 hstep hend (x0.length - 1) 0 (x0.length + 1) (by omega) (by omega)
  have z : ((0 + 1 : Nat) : Int) = 1 := rfl
  rw [z] at c1 c2
  by_cases hP : ∀ k, k < x0.length - 1 → (rd x0 k 1).int ≤ (rd x0 (k + 1) 1).int
  · have c := c1 fun j _ hj => hP j hj
    have r : riseS x0 = true := by simp [riseS]; exact hP
    exact ⟨by unfold rrise_L0_p; rw [c, Option.isSome_some], by unfold rrise_L0_v; rw [c, Option.getD_some, r]; rfl⟩
  · have hex : ∃ j, 0 ≤ j ∧ j < x0.length - 1 ∧ ¬ (rd x0 j 1).int ≤ (rd x0 (j + 1) 1).int := by
      apply Classical.byContradiction
      intro hc
      exact hP fun k hk => Classical.byContradiction fun hn => hc ⟨k, Nat.zero_le _, hk, hn⟩
    have c := c2 hex
    have r : riseS x0 = false := by unfold riseS; exact decide_eq_false hP
    exact ⟨by unfold rrise_L0_p; rw [c, Option.isSome_some], by unfold rrise_L0_v; rw [c, Option.getD_some, r]; rfl⟩
theorem crise_at (x0 : List (List Ct)) (hn : x0.length ≤ 1000) : crise_res x0 = some (riseV x0) := by
  obtain ⟨p, v⟩ := crise_loop x0 hn
  cases hr : rightS x0 <;> cases hs : riseS x0 <;> rw [hs] at v <;> simp [crise_res, cright_v, riseV, p, v, hr, hs]
theorem rrise_at (x0 : List (List Ct)) (hn : x0.length ≤ 1000) : rrise_res x0 = some (riseV x0) := by
  obtain ⟨p, v⟩ := rrise_loop x0 hn
  cases hr : rightS x0 <;> cases hs : riseS x0 <;> rw [hs] at v <;> simp [rrise_res, rright_v, riseV, p, v, hr, hs]
/-- What two lists of pins share. -/
structure SameL (l l' : List (List Ct)) : Prop where
  len : l.length = l'.length
  x : ∀ k, k < l.length → (rd l k 0).int = (rd l' k 0).int
  y : ∀ k, k < l.length → (rd l k 1).int = (rd l' k 1).int
theorem SameL.symm {l l' : List (List Ct)} (h : SameL l l') : SameL l' l := ⟨h.len.symm, fun k hk => (h.x k (by rw [h.len]; exact hk)).symm, fun k hk => (h.y k (by rw [h.len]; exact hk)).symm⟩
theorem SameL.rightP {l l' : List (List Ct)} (h : SameL l l') (hr : RightP l) : RightP l' := by
  have hl := h.len
  have h0 := hr.n0
  have h1 := hr.n1
  refine ⟨by omega, by omega, fun k hk => ?_⟩
  have p := hr.pin k (by omega)
  have hx := h.x k (by omega)
  have hy := h.y k (by omega)
  refine ⟨?_, ?_, ?_, ?_, fun hk0 => ?_⟩
  · have := p.x0; omega
  · have := p.x1; omega
  · have := p.y0; omega
  · have := p.y1; omega
  · have := p.up hk0
    have hx' := h.x (k - 1) (by omega)
    omega
theorem SameL.right {l l' : List (List Ct)} (h : SameL l l') : rightS l = rightS l' := by
  by_cases hr : RightP l
  · rw [rightS_true hr, rightS_true (h.rightP hr)]
  · rw [rightS_false hr, rightS_false fun hr' => hr (h.symm.rightP hr')]
theorem SameL.rise {l l' : List (List Ct)} (h : SameL l l') : riseS l = riseS l' := by
  have hl := h.len
  have e : (∀ k, k < l.length - 1 → (rd l k 1).int ≤ (rd l (k + 1) 1).int) ↔ (∀ k, k < l'.length - 1 → (rd l' k 1).int ≤ (rd l' (k + 1) 1).int) := by
    constructor
    · intro g k hk
      have := g k (by omega)
      have h1 := h.y k (by omega)
      have h2 := h.y (k + 1) (by omega)
      omega
    · intro g k hk
      have := g k (by omega)
      have h1 := h.y k (by omega)
      have h2 := h.y (k + 1) (by omega)
      omega
  unfold riseS
  simp only [e]
theorem SameL.last {l l' : List (List Ct)} (h : SameL l l') (X : Int) : lastS l X l.length = lastS l' X l'.length := by
  unfold lastS
  rw [← h.len]
  exact nfold_congr (fun k hk a => by simp only [lastF, h.x k hk]) _
theorem SameL.at' {l l' : List (List Ct)} (h : SameL l l') (x : Int) : atV l x = atV l' x := by
  unfold atV
  rw [← h.right]
  cases hr : rightS l with
  | false => rfl
  | true =>
    simp only [cond_true]
    have hR := rightS_iff.1 hr
    have hn := hR.n0
    unfold atS
    rw [← h.last, ← h.len, ← h.y 0 (by omega)]
    rcases last_spec (l := l) (X := heldS x) l.length with ⟨h1, _⟩ | ⟨i, h1, h2, _⟩
    · rw [h1]; rfl
    · rw [h2, Int.toNat_natCast, ← h.x i h1, ← h.y i h1]
      split
      · rfl
      · split
        · rfl
        · rw [← h.x (i + 1) (by omega), ← h.y (i + 1) (by omega)]
end Go.Proofs.Ytonlllijdbjkaaa
