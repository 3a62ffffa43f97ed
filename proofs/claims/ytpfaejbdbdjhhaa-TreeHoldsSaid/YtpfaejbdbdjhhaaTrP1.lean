/- Trees: the program's pairs about some shapes, and what they cost, in plain numbers. No condition. -/
import Derived.Test.YtpfaejbdbdjhhaaTrNum
import Derived.Test.YtpfaejbdbdjhhaaEngTr5
set_option linter.unusedVariables false
set_option linter.unusedSimpArgs false
namespace Go.Proofs.Ytpfaejbdbdjhhaa
open Go.RowKit

theorem rd_seg {o : List (List Ct)} {A l B : List Int} (h : col o = A ++ l ++ B) {k : Nat} (hk : k < l.length) : (rd o (A.length + k) 0).int = l.getD k 0 := by
  rw [rd_col, h]
  rw [List.getD_eq_getElem?_getD, List.append_assoc, List.getElem?_append_right (by omega), Nat.add_sub_cancel_left, List.getElem?_append_left hk, List.getD_eq_getElem?_getD]
theorem getD_mem {l : List Int} {k : Nat} (hk : k < l.length) : l.getD k 0 ∈ l := by
  simp [List.getD, hk]
theorem tap_is {o Q : List (List Ct)} {A l B : List Int} (h : col o = A ++ l ++ B) (h0 : 0 < l.length) (hl : l.length ≤ 1000) (hr : ∀ i ∈ l, 0 ≤ i ∧ i < Q.length) : tap_res o Q (A.length : Int) (l.length : Int) = some (arL Q l) := by
  have hd : ∀ k, k < l.length → 0 ≤ l.getD k 0 ∧ l.getD k 0 < Q.length := fun k hk => hr _ (getD_mem hk)
  have z1 : Int.toNat (1 : Int) = 1 := rfl
  have z0 : Int.toNat (0 : Int) = 0 := rfl
  have r0 : (rd o A.length 0).int = l.getD 0 0 := by have := rd_seg h h0; rwa [Nat.add_zero] at this
  have it := iter_range (step := tap_L0_step o Q (A.length : Int) (l.length : Int)) (A := P12) (fun k a => ((k : Int), a.1, a.2.1, a.2.2.1, a.2.2.2.1, a.2.2.2.2.1, a.2.2.2.2.2.1, a.2.2.2.2.2.2.1, a.2.2.2.2.2.2.2.1, a.2.2.2.2.2.2.2.2.1, a.2.2.2.2.2.2.2.2.2.1, a.2.2.2.2.2.2.2.2.2.2.1, a.2.2.2.2.2.2.2.2.2.2.2)) (fun _ _ => True) (f := fun k a => both2 a (prI Q (l.getD (k + 1) 0))) (out := fun a => (((l.length - 1 : Nat) : Int), a.1, a.2.1, a.2.2.1, a.2.2.2.1, a.2.2.2.2.1, a.2.2.2.2.2.1, a.2.2.2.2.2.2.1, a.2.2.2.2.2.2.2.1, a.2.2.2.2.2.2.2.2.1, a.2.2.2.2.2.2.2.2.2.1, a.2.2.2.2.2.2.2.2.2.2.1, a.2.2.2.2.2.2.2.2.2.2.2)) (n := l.length - 1) (m := (l.length : Int).toNat + 1) (v := ((0 : Int), (rd Q (l.getD 0 0).toNat 0).int, (rd Q (l.getD 0 0).toNat 1).int, (rd Q (l.getD 0 0).toNat 2).int, (rd Q (l.getD 0 0).toNat 3).int, (rd Q (l.getD 0 0).toNat 4).int, (rd Q (l.getD 0 0).toNat 5).int, (rd Q (l.getD 0 0).toNat 6).int, (rd Q (l.getD 0 0).toNat 7).int, (rd Q (l.getD 0 0).toNat 8).int, (rd Q (l.getD 0 0).toNat 9).int, (rd Q (l.getD 0 0).toNat 10).int, (rd Q (l.getD 0 0).toNat 11).int)) (a0 := prI Q (l.getD 0 0))
    rfl (by rw [Int.toNat_natCast]; omega)
    (fun k hk a _ => ⟨by
      have hx := hd (k + 1) (by omega)
      have r := rd_seg h (k := k + 1) (by omega)
      rw [show A.length + (k + 1) = A.length + 1 + k by omega] at r
      generalize l.getD (k + 1) 0 = x at hx r
      have q1 : (k : Int) < ((l.length - 1 : Nat) : Int) := by omega
      have q2 : (0 : Int) ≤ (k : Int) ∧ (k : Int) < ((l.length - 1 : Nat) : Int) := ⟨by omega, q1⟩
      simp only [tap_L0_step, Int.toNat_natCast, z1, r, cond_dec q1, cond_dec q2, cond_dec hx, wrap_in (n := (k : Int) + 1) (by omega) (by omega)]
      rfl, trivial⟩)
    (fun a _ => by
      simp only [tap_L0_step, Int.toNat_natCast, z1]
      rw [cond_not (by omega)]) trivial
  have hp : tap_L0_p o Q (A.length : Int) (l.length : Int) = true := by
    unfold tap_L0_p
    simp only [Int.toNat_natCast, z0, Nat.add_zero, r0] at it ⊢
    rw [it]; rfl
  have hv : tap_L0_v o Q (A.length : Int) (l.length : Int) = (fun a : P12 => (((l.length - 1 : Nat) : Int), a.1, a.2.1, a.2.2.1, a.2.2.2.1, a.2.2.2.2.1, a.2.2.2.2.2.1, a.2.2.2.2.2.2.1, a.2.2.2.2.2.2.2.1, a.2.2.2.2.2.2.2.2.1, a.2.2.2.2.2.2.2.2.2.1, a.2.2.2.2.2.2.2.2.2.2.1, a.2.2.2.2.2.2.2.2.2.2.2)) (arL Q l) := by
    unfold tap_L0_v loopRes
    simp only [Int.toNat_natCast, z0, Nat.add_zero, r0] at it ⊢
    rw [it]; rfl
  have q1 : (0 : Int) ≤ (0 : Int) ∧ (0 : Int) < (l.length : Int) := ⟨by omega, by omega⟩
  have q2 : (0 : Int) ≤ (1 : Int) ∧ (1 : Int) ≤ (l.length : Int) ∧ (l.length : Int) ≤ (l.length : Int) ∧ 0 < l.length := ⟨by omega, by omega, by omega, h0⟩
  simp only [tap_res, Int.toNat_natCast, z0, Nat.add_zero, r0, hp, hv, cond_dec q1, cond_dec q2, cond_dec (hd 0 h0), cond_true]
theorem tan_is {o Q : List (List Ct)} {A l B : List Int} (h : col o = A ++ l ++ B) (h0 : 0 < l.length) (hl : l.length ≤ 1000) (hr : ∀ i ∈ l, 0 ≤ i ∧ i < Q.length) : tan_res o Q (A.length : Int) (l.length : Int) = some (arL Q l) := tap_is h h0 hl hr
theorem tar_is {r Q : List (List Ct)} {l : List Int} (h : col r = l) (h0 : 0 < l.length) (hl : l.length ≤ 1000) (hr : ∀ i ∈ l, 0 ≤ i ∧ i < Q.length) : tar_res Q r = some (arL Q l) := by
  have hlen : r.length = l.length := by rw [← h, col_length]
  have hd : ∀ k, k < l.length → 0 ≤ l.getD k 0 ∧ l.getD k 0 < Q.length := fun k hk => hr _ (getD_mem hk)
  have z0 : Int.toNat (0 : Int) = 0 := rfl
  have hrd : ∀ k, (rd r k 0).int = l.getD k 0 := fun k => by rw [rd_col, h]
  have hpl : (partOf r (1 : Int) (r.length : Int)).length = l.length - 1 := by rw [rest_length, hlen]
  have hrest : ∀ k, k < l.length - 1 → (rd (partOf r (1 : Int) (r.length : Int)) k 0).int = l.getD (k + 1) 0 := fun k hk => by
    rw [rd_rest (by omega), hrd]
  have it := iter_range (step := tar_L0_step Q r) (A := P12) (fun k a => ((k : Int), a.1, a.2.1, a.2.2.1, a.2.2.2.1, a.2.2.2.2.1, a.2.2.2.2.2.1, a.2.2.2.2.2.2.1, a.2.2.2.2.2.2.2.1, a.2.2.2.2.2.2.2.2.1, a.2.2.2.2.2.2.2.2.2.1, a.2.2.2.2.2.2.2.2.2.2.1, a.2.2.2.2.2.2.2.2.2.2.2)) (fun _ _ => True) (f := fun k a => both2 a (prI Q (l.getD (k + 1) 0))) (out := fun a => (((l.length - 1 : Nat) : Int), a.1, a.2.1, a.2.2.1, a.2.2.2.1, a.2.2.2.2.1, a.2.2.2.2.2.1, a.2.2.2.2.2.2.1, a.2.2.2.2.2.2.2.1, a.2.2.2.2.2.2.2.2.1, a.2.2.2.2.2.2.2.2.2.1, a.2.2.2.2.2.2.2.2.2.2.1, a.2.2.2.2.2.2.2.2.2.2.2)) (n := l.length - 1) (m := r.length + 1) (v := ((0 : Int), (rd Q (l.getD 0 0).toNat 0).int, (rd Q (l.getD 0 0).toNat 1).int, (rd Q (l.getD 0 0).toNat 2).int, (rd Q (l.getD 0 0).toNat 3).int, (rd Q (l.getD 0 0).toNat 4).int, (rd Q (l.getD 0 0).toNat 5).int, (rd Q (l.getD 0 0).toNat 6).int, (rd Q (l.getD 0 0).toNat 7).int, (rd Q (l.getD 0 0).toNat 8).int, (rd Q (l.getD 0 0).toNat 9).int, (rd Q (l.getD 0 0).toNat 10).int, (rd Q (l.getD 0 0).toNat 11).int)) (a0 := prI Q (l.getD 0 0))
    rfl (by omega)
    (fun k hk a _ => ⟨by
      have hx := hd (k + 1) (by omega)
      have r := hrest k hk
      generalize l.getD (k + 1) 0 = x at hx r
      have q1 : (k : Int) < ((l.length - 1 : Nat) : Int) := by omega
      have q2 : (0 : Int) ≤ (k : Int) ∧ (k : Int) < ((l.length - 1 : Nat) : Int) := ⟨by omega, q1⟩
      simp only [tar_L0_step, Int.toNat_natCast, hpl, r, cond_dec q1, cond_dec q2, cond_dec hx, wrap_in (n := (k : Int) + 1) (by omega) (by omega)]
      rfl, trivial⟩)
    (fun a _ => by
      simp only [tar_L0_step, hpl]
      rw [cond_not (by omega)]) trivial
  have hp : tar_L0_p Q r = true := by
    unfold tar_L0_p
    simp only [z0, hrd] at it ⊢
    rw [it]; rfl
  have hv : tar_L0_v Q r = (fun a : P12 => (((l.length - 1 : Nat) : Int), a.1, a.2.1, a.2.2.1, a.2.2.2.1, a.2.2.2.2.1, a.2.2.2.2.2.1, a.2.2.2.2.2.2.1, a.2.2.2.2.2.2.2.1, a.2.2.2.2.2.2.2.2.1, a.2.2.2.2.2.2.2.2.2.1, a.2.2.2.2.2.2.2.2.2.2.1, a.2.2.2.2.2.2.2.2.2.2.2)) (arL Q l) := by
    unfold tar_L0_v loopRes
    simp only [z0, hrd] at it ⊢
    rw [it]; rfl
  have q1 : (0 : Int) ≤ (0 : Int) ∧ (0 : Int) < (l.length : Int) := ⟨by omega, by omega⟩
  have q2 : (0 : Int) ≤ (1 : Int) ∧ (1 : Int) ≤ (l.length : Int) ∧ (l.length : Int) ≤ (l.length : Int) := ⟨by omega, by omega, by omega⟩
  simp only [tar_res, hlen, z0, hrd, hp, hv, cond_dec q1, cond_dec q2, cond_dec (hd 0 h0), cond_true]
theorem tco_is {r Q : List (List Ct)} {l : List Int} (h : col r = l) (h0 : 0 < l.length) (hl : l.length ≤ 1000) (hr : ∀ i ∈ l, 0 ≤ i ∧ i < Q.length) : tco_res Q r = some (costL Q l) := by
  have hlen : r.length = l.length := by rw [← h, col_length]
  have ht := tar_is h h0 hl hr
  have hv : tar_v Q r = arL Q l := by unfold tar_v; rw [ht]; rfl
  simp only [tco_res, ht, hv, hlen, Option.isSome_some, cond_true]
  rfl
end Go.Proofs.Ytpfaejbdbdjhhaa
