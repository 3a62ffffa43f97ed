/- Trees: what both sides compute, in plain numbers. No condition. -/
import Derived.Test.YtpfaejbdbdjhhaaEngTr2
import Derived.Test.YtpfaejbdbdjhhaaLoopA
set_option linter.unusedVariables false
set_option linter.unusedSimpArgs false
namespace Go.Proofs.Ytpfaejbdbdjhhaa
open Go.RowKit

theorem ram_abs (x : Int) : ram_v x = absS x := by
  have h := heldS_bd x
  unfold ram_v absS
  by_cases hx : heldS x < 0
  · rw [cond_dec hx, if_neg (by omega), wrap_in (by omega) (by omega)]; omega
  · rw [cond_not hx, if_pos (by omega)]
theorem rwi_twi (a b c : Int) : rwi_v a b c = twi_v a b c := by
  unfold rwi_v twi_v
  simp only [ram_abs]
  generalize absS a = x
  generalize absS b = y
  generalize absS c = z
  by_cases h1 : y > x
  · have h2 : ¬ x ≥ y := by omega
    simp only [h1, h2, decide_true, decide_false, cond_true, cond_false, ge_iff_le, Int.le_refl]
    by_cases h3 : z > y
    · have h4 : ¬ y ≥ z := by omega
      have h5 : z ≥ x := by omega
      have h6 : z ≥ y := by omega
      simp [h3, h4, h5, h6]
    · have h4 : y ≥ z := by omega
      have h5 : y ≥ x := by omega
      simp [h3, h4, h5]
  · have h2 : x ≥ y := by omega
    simp only [h1, h2, decide_true, decide_false, cond_true, cond_false, ge_iff_le, Int.le_refl]
    by_cases h3 : z > x
    · have h4 : ¬ x ≥ z := by omega
      have h5 : z ≥ x := by omega
      have h6 : z ≥ y := by omega
      have h7 : ¬ y ≥ z := by omega
      simp [h3, h4, h5, h6, h7]
    · have h4 : x ≥ z := by omega
      simp [h3, h4]
theorem mul_fdiv (m : Int) : m.fdiv ((2 : Int) ^ min (Int.toNat (16 : Int)) IntKind.i64.bits) = m / 65536 := by
  have : (2 : Int) ^ min (Int.toNat (16 : Int)) IntKind.i64.bits = 65536 := by decide
  rw [this, Int.fdiv_eq_ediv_of_nonneg _ (by decide)]
theorem rpt_tbi (a b c : Int) : rpt_v a b c = tbi_v a b c := by
  unfold rpt_v tbi_v
  have hm := mulS_bd 524288 (divS (subS a b) c)
  generalize mulS 524288 (divS (subS a b) c) = m at hm
  rw [heldS_id hm.1 hm.2, mul_fdiv]
  have key : IntKind.i64.wrap ((IntKind.i64.wrap (m - bif decide (m.tmod (65536 : Int) < (0 : Int)) then IntKind.i64.wrap (m.tmod (65536 : Int) + (65536 : Int)) else m.tmod (65536 : Int))).tdiv (65536 : Int)) = m / 65536 := by
    have e1 : (bif decide (m.tmod (65536 : Int) < (0 : Int)) then IntKind.i64.wrap (m.tmod (65536 : Int) + (65536 : Int)) else m.tmod (65536 : Int)) = m % 65536 := by
      rcases Int.lt_or_le m 0 with h | h
      · have : m.tmod 65536 = -((-m) % 65536) := by rw [← Int.tmod_eq_emod_of_nonneg (by omega : 0 ≤ -m), Int.neg_tmod]; omega
        by_cases h2 : m.tmod 65536 < 0
        · rw [cond_dec h2, wrap_in (by omega) (by omega)]; omega
        · rw [cond_not h2]; omega
      · have : m.tmod 65536 = m % 65536 := Int.tmod_eq_emod_of_nonneg h
        rw [cond_not (by omega), this]
    rw [e1, wrap_in (n := m - m % 65536) (by omega) (by omega)]
    have e2 : (m - m % 65536).tdiv 65536 = m / 65536 := by
      have : m - m % 65536 = m / 65536 * 65536 := by omega
      rw [this, Int.mul_tdiv_cancel _ (by decide)]
    rw [e2, wrap_in (by omega) (by omega)]
  rw [key]
  by_cases h : m / 65536 > 7
  · rw [cond_dec h, if_pos h]
  · rw [cond_not h, if_neg h]
theorem rsk_tsk (a b c d e f : Int) : rsk_v a b c d e f = tsk_v a b c d e f := by
  unfold rsk_v tsk_v
  have h := mulS_bd (subS d a) (subS e b)
  have e0 : ∀ x, addS 0 x = heldS x := fun x => by
    have := heldS_bd x
    unfold addS
    rw [show heldS 0 = 0 from rfl, Int.zero_add, heldS_held]
  rw [e0, heldS_id h.1 h.2]
/-- A pair's numbers. -/
abbrev P12 := Int × Int × Int × Int × Int × Int × Int × Int × Int × Int × Int × Int
noncomputable def prI (Q : List (List Ct)) (i : Int) : P12 := ((rd Q i.toNat 0).int, (rd Q i.toNat 1).int, (rd Q i.toNat 2).int, (rd Q i.toNat 3).int, (rd Q i.toNat 4).int, (rd Q i.toNat 5).int, (rd Q i.toNat 6).int, (rd Q i.toNat 7).int, (rd Q i.toNat 8).int, (rd Q i.toNat 9).int, (rd Q i.toNat 10).int, (rd Q i.toNat 11).int)
/-- The pair of two. -/
noncomputable def both2 (a b : P12) : P12 := (if b.1 < a.1 then b.1 else a.1, if b.2.1 < a.2.1 then b.2.1 else a.2.1, if b.2.2.1 < a.2.2.1 then b.2.2.1 else a.2.2.1, if b.2.2.2.1 > a.2.2.2.1 then b.2.2.2.1 else a.2.2.2.1, if b.2.2.2.2.1 > a.2.2.2.2.1 then b.2.2.2.2.1 else a.2.2.2.2.1, if b.2.2.2.2.2.1 > a.2.2.2.2.2.1 then b.2.2.2.2.2.1 else a.2.2.2.2.2.1, if b.2.2.2.2.2.2.1 < a.2.2.2.2.2.2.1 then b.2.2.2.2.2.2.1 else a.2.2.2.2.2.2.1, if b.2.2.2.2.2.2.2.1 < a.2.2.2.2.2.2.2.1 then b.2.2.2.2.2.2.2.1 else a.2.2.2.2.2.2.2.1, if b.2.2.2.2.2.2.2.2.1 < a.2.2.2.2.2.2.2.2.1 then b.2.2.2.2.2.2.2.2.1 else a.2.2.2.2.2.2.2.2.1, if b.2.2.2.2.2.2.2.2.2.1 > a.2.2.2.2.2.2.2.2.2.1 then b.2.2.2.2.2.2.2.2.2.1 else a.2.2.2.2.2.2.2.2.2.1, if b.2.2.2.2.2.2.2.2.2.2.1 > a.2.2.2.2.2.2.2.2.2.2.1 then b.2.2.2.2.2.2.2.2.2.2.1 else a.2.2.2.2.2.2.2.2.2.2.1, if b.2.2.2.2.2.2.2.2.2.2.2 > a.2.2.2.2.2.2.2.2.2.2.2 then b.2.2.2.2.2.2.2.2.2.2.2 else a.2.2.2.2.2.2.2.2.2.2.2)
noncomputable def whP (p : P12) : Int × Int × Int × Int × Int × Int := twh_v p.1 p.2.1 p.2.2.1 p.2.2.2.1 p.2.2.2.2.1 p.2.2.2.2.2.1 p.2.2.2.2.2.2.1 p.2.2.2.2.2.2.2.1 p.2.2.2.2.2.2.2.2.1 p.2.2.2.2.2.2.2.2.2.1 p.2.2.2.2.2.2.2.2.2.2.1 p.2.2.2.2.2.2.2.2.2.2.2
noncomputable def skP (p : P12) : Int := tsk_v (whP p).1 (whP p).2.1 (whP p).2.2.1 (whP p).2.2.2.1 (whP p).2.2.2.2.1 (whP p).2.2.2.2.2
noncomputable def midP (p : P12) : Int × Int × Int := tmi_v (whP p).1 (whP p).2.1 (whP p).2.2.1 (whP p).2.2.2.1 (whP p).2.2.2.2.1 (whP p).2.2.2.2.2
theorem rwh_twh (p : P12) : rwh_v p.1 p.2.1 p.2.2.1 p.2.2.2.1 p.2.2.2.2.1 p.2.2.2.2.2.1 p.2.2.2.2.2.2.1 p.2.2.2.2.2.2.2.1 p.2.2.2.2.2.2.2.2.1 p.2.2.2.2.2.2.2.2.2.1 p.2.2.2.2.2.2.2.2.2.2.1 p.2.2.2.2.2.2.2.2.2.2.2 = whP p := by
  simp only [rwh_v, whP, twh_v, Bool.cond_decide]
theorem rmi_mid (p : P12) : rmi_v p.1 p.2.1 p.2.2.1 p.2.2.2.1 p.2.2.2.2.1 p.2.2.2.2.2.1 p.2.2.2.2.2.2.1 p.2.2.2.2.2.2.2.1 p.2.2.2.2.2.2.2.2.1 p.2.2.2.2.2.2.2.2.2.1 p.2.2.2.2.2.2.2.2.2.2.1 p.2.2.2.2.2.2.2.2.2.2.2 = midP p := by
  simp only [rmi_v, midP, whP, twh_v, tmi_v, Bool.cond_decide]
/-- The pair about some shapes. -/
noncomputable def arL (Q : List (List Ct)) (l : List Int) : P12 := nfold (fun k a => both2 a (prI Q (l.getD (k + 1) 0))) (l.length - 1) (prI Q (l.getD 0 0))
noncomputable def costL (Q : List (List Ct)) (l : List Int) : Int := IntKind.i64.wrap ((l.length : Int) * skP (arL Q l))
/-- A middle, as a row. -/
noncomputable def midRow (p : P12) : List Ct := [.i (midP p).1, .i (midP p).2.1, .i (midP p).2.2]
noncomputable def midR (Q : List (List Ct)) (l : List Int) : List (List Ct) := l.map fun i => midRow (prI Q i)
noncomputable def lowT (Q : List (List Ct)) (l : List Int) : Int × Int × Int := vleast_v (rd (midR Q l) 0 0).int (rd (midR Q l) 0 1).int (rd (midR Q l) 0 2).int (partOf (midR Q l) (1 : Int) ((midR Q l).length : Int))
noncomputable def highT (Q : List (List Ct)) (l : List Int) : Int × Int × Int := vgreat_v (rd (midR Q l) 0 0).int (rd (midR Q l) 0 1).int (rd (midR Q l) 0 2).int (partOf (midR Q l) (1 : Int) ((midR Q l).length : Int))
noncomputable def sizeT (Q : List (List Ct)) (l : List Int) : Int × Int × Int := (subS (highT Q l).1 (lowT Q l).1, subS (highT Q l).2.1 (lowT Q l).2.1, subS (highT Q l).2.2 (lowT Q l).2.2)
noncomputable def axT (Q : List (List Ct)) (l : List Int) : Int := twi_v (sizeT Q l).1 (sizeT Q l).2.1 (sizeT Q l).2.2
noncomputable def at3 (v : Int × Int × Int) (x : Int) : Int := tat_v v.1 v.2.1 v.2.2 x
/-- The part in which a shape lies. -/
noncomputable def binL (Q : List (List Ct)) (l : List Int) (i : Int) : Int := tbi_v (at3 (midP (prI Q i)) (axT Q l)) (at3 (lowT Q l) (axT Q l)) (at3 (sizeT Q l) (axT Q l))
noncomputable def leftL (Q : List (List Ct)) (l : List Int) (cut : Int) : List Int := l.filter fun i => decide (binL Q l i < cut)
noncomputable def rightL (Q : List (List Ct)) (l : List Int) (cut : Int) : List Int := l.filter fun i => !decide (binL Q l i < cut)
noncomputable def stepB (Q : List (List Ct)) (l : List Int) (k : Nat) (st : Option (List Int × List Int × Int)) : Option (List Int × List Int × Int) :=
  if (leftL Q l ((k : Int) + 1)).length = 0 ∨ (rightL Q l ((k : Int) + 1)).length = 0 then st else
    match st with
    | none => some (leftL Q l ((k : Int) + 1), rightL Q l ((k : Int) + 1), IntKind.i64.wrap (costL Q (leftL Q l ((k : Int) + 1)) + costL Q (rightL Q l ((k : Int) + 1))))
    | some b => if IntKind.i64.wrap (costL Q (leftL Q l ((k : Int) + 1)) + costL Q (rightL Q l ((k : Int) + 1))) < b.2.2 then some (leftL Q l ((k : Int) + 1), rightL Q l ((k : Int) + 1), IntKind.i64.wrap (costL Q (leftL Q l ((k : Int) + 1)) + costL Q (rightL Q l ((k : Int) + 1)))) else some b
noncomputable def bestL (Q : List (List Ct)) (l : List Int) : Option (List Int × List Int × Int) := nfold (stepB Q l) 7 none
/-- Two halves. -/
noncomputable def splitL (Q : List (List Ct)) (l : List Int) : List Int × List Int :=
  if at3 (sizeT Q l) (axT Q l) ≤ 0 then (l.take (l.length / 2), l.drop (l.length / 2)) else
    match bestL Q l with
    | none => (l.take (l.length / 2), l.drop (l.length / 2))
    | some b => (b.1, b.2.1)
/-- A row of the nodes. -/
noncomputable def row16 (p : P12) (left right first count : Int) : List Ct := [.i p.1, .i p.2.1, .i p.2.2.1, .i p.2.2.2.1, .i p.2.2.2.2.1, .i p.2.2.2.2.2.1, .i p.2.2.2.2.2.2.1, .i p.2.2.2.2.2.2.2.1, .i p.2.2.2.2.2.2.2.2.1, .i p.2.2.2.2.2.2.2.2.2.1, .i p.2.2.2.2.2.2.2.2.2.2.1, .i p.2.2.2.2.2.2.2.2.2.2.2, .i left, .i right, .i first, .i count]
/-- A tree's nodes and its order: base: how many nodes stand ahead; first: how many shapes. -/
noncomputable def nodesL (Q : List (List Ct)) : Nat → Nat → Nat → List Int → List (List Ct) × List Int
  | 0, _, _, _ => ([], [])
  | k + 1, base, first, l =>
    if l.length ≤ 4 then ([row16 (arL Q l) (-1) (-1) first l.length], l) else
      let a := nodesL Q k (base + 1) first (splitL Q l).1
      let b := nodesL Q k (base + 1 + a.1.length) (first + (splitL Q l).1.length) (splitL Q l).2
      (row16 (arL Q l) ((base + 1 : Nat) : Int) ((base + 1 + a.1.length : Nat) : Int) 0 0 :: (a.1 ++ b.1), a.2 ++ b.2)
end Go.Proofs.Ytpfaejbdbdjhhaa
