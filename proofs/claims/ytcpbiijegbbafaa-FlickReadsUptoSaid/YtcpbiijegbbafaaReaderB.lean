/- A reader's values in plain numbers. No condition. -/
import Derived.Test.YtcpbiijegbbafaaReelA
import Derived.Test.YtcpbiijegbbafaaByt
set_option linter.unusedVariables false
set_option linter.unusedSimpArgs false
namespace Go.Proofs.Ytcpbiijegbbafaa
open Go.RowKit

theorem rtk_is {b : List (List Ct)} {e : Int} {n : Nat} : rtk_res b e (n : Int) = some (if e ≠ 0 then (e, b, []) else if b.length < n then (9, [], []) else (0, partOf b (n : Int) (b.length : Int), partOf b (0 : Int) (n : Int))) := by
  unfold rtk_res
  by_cases he : e = 0
  · subst he
    by_cases hn : b.length < n
    · have q : (n : Int) > (b.length : Int) := by omega
      simp [hn, cond_dec q]
    · have q : ¬ (n : Int) > (b.length : Int) := by omega
      have q1 : (0 : Int) ≤ 0 ∧ (0 : Int) ≤ (n : Int) ∧ (n : Int) ≤ (b.length : Int) := by omega
      have q2 : (0 : Int) ≤ (n : Int) ∧ (n : Int) ≤ (b.length : Int) ∧ (b.length : Int) ≤ (b.length : Int) := by omega
      rw [cond_not q, cond_dec q1, cond_dec q2]
      simp [hn]
  · have : (e != 0) = true := by simpa using he
    rw [this, if_pos he]; rfl
def rawV (b : List (List Ct)) (e : Int) (n : Nat) : Int × Int × List (List Ct) :=
  if e ≠ 0 then (0, e, b) else if b.length < n then (0, 9, []) else (num ((col b).take n), 0, partOf b (n : Int) (b.length : Int))
theorem rrw_it {b : List (List Ct)} {e x1 : Int} {p : List (List Ct)} (hp : (rtk_v b e x1).snd.snd = p) (hB : Byt (col p)) (hl : p.length ≤ 8) : ∀ (d i fuel : Nat), i + d = p.length → d < fuel →
    iter (rrw_L0_step b e x1) fuel (num ((col p).take i), (i : Int)) = some (num (col p), (p.length : Int)) := by
  intro d
  induction d with
  | zero =>
    intro i fuel hi hf
    obtain ⟨fuel, rfl⟩ : ∃ k, fuel = k + 1 := ⟨fuel - 1, by omega⟩
    have q : ¬ ((i : Int) < (p.length : Int)) := by omega
    have hi' : i = p.length := by omega
    refine iter_inr ?_
    simp only [rrw_L0_step, hp, cond_not q]
    rw [List.take_of_length_le (by rw [col_length]; omega), hi']
  | succ d ih =>
    intro i fuel hi hf
    obtain ⟨fuel, rfl⟩ : ∃ k, fuel = k + 1 := ⟨fuel - 1, by omega⟩
    have q : ((i : Int) < (p.length : Int)) := by omega
    have q1 : (0 : Int) ≤ (i : Int) ∧ (i : Int) < (p.length : Int) := by omega
    have w : IntKind.i64.wrap ((8 : Int) * (i : Int)) = ((8 * i : Nat) : Int) := by rw [wrap_in (by omega) (by omega)]; omega
    have q2 : (0 : Int) ≤ ((8 * i : Nat) : Int) := by omega
    have w1 : IntKind.i64.wrap ((i : Int) + 1) = ((i + 1 : Nat) : Int) := by rw [wrap_in (by omega) (by omega)]; omega
    have hil : i < (col p).length := by rw [col_length]; omega
    have hx := hB ((col p).getD i 0) (by simp [List.getD, hil])
    have htk : (col p).take (i + 1) = (col p).take i ++ [(col p).getD i 0] := by
      rw [List.take_add_one]; simp [List.getD, hil]
    have hr := num_range (hB.take i)
    have hlen : ((col p).take i).length = i := by simp; omega
    rw [hlen] at hr
    obtain ⟨a, ha⟩ := Int.eq_ofNat_of_zero_le hr.1
    obtain ⟨x, hx'⟩ := Int.eq_ofNat_of_zero_le hx.1
    have hst : rrw_L0_step b e x1 (num ((col p).take i), (i : Int)) = some (.inl (num ((col p).take (i + 1)), ((i + 1 : Nat) : Int))) := by
      simp only [rrw_L0_step, hp, cond_dec q, cond_dec q1, w, cond_dec q2, w1, Int.toNat_natCast]
      rw [htk, num_snoc, hlen, ha, rd_col, hx', u64_in (x := (x : Int)) (by omega) (by omega)]
      rw [or_bytes (by
        have : ((a : Int)) < ((2 ^ (8 * i) : Nat) : Int) := by
          rw [← ha]; refine Int.lt_of_lt_of_le hr.2 (Int.le_of_eq ?_)
          rw [show (2 : Nat) ^ (8 * i) = 256 ^ i by rw [Nat.pow_mul], Int.natCast_pow]; rfl
        omega) (by omega) (by omega)]
    rw [iter_inl hst]
    exact ih (i + 1) fuel (by omega) (by omega)
theorem rrw_is {b : List (List Ct)} {e : Int} {n : Nat} (hB : Byt (col b)) (hn : n ≤ 8) : rrw_res b e (n : Int) = some (rawV b e n) := by
  have ht := rtk_is (b := b) (e := e) (n := n)
  have hv : rtk_v b e (n : Int) = (if e ≠ 0 then (e, b, []) else if b.length < n then (9, [], []) else (0, partOf b (n : Int) (b.length : Int), partOf b (0 : Int) (n : Int))) := by unfold rtk_v; rw [ht]; rfl
  have fin : ∀ (p : List (List Ct)), (rtk_v b e (n : Int)).snd.snd = p → Byt (col p) → p.length ≤ 8 → rrw_res b e (n : Int) = some (num (col p), (rtk_v b e (n : Int)).fst, (rtk_v b e (n : Int)).snd.fst) := by
    intro p hp hB' hl
    have := rrw_it hp hB' hl p.length 0 1000 (by omega) (by omega)
    rw [show num ((col p).take 0) = 0 from rfl, show ((0 : Nat) : Int) = 0 from rfl] at this
    have p1 : rrw_L0_p b e (n : Int) = true := by unfold rrw_L0_p; rw [this]; rfl
    have p2 : (rrw_L0_v b e (n : Int)).1 = num (col p) := by unfold rrw_L0_v loopRes; rw [this]; rfl
    unfold rrw_res
    rw [ht, p1, p2]
    rfl
  unfold rawV
  by_cases he : e ≠ 0
  · rw [if_pos he] at hv ⊢
    rw [fin [] (by rw [hv]) (fun y hy => by cases hy) (by simp), hv]; rfl
  · rw [if_neg he] at hv ⊢
    by_cases hl : b.length < n
    · rw [if_pos hl] at hv ⊢
      rw [fin [] (by rw [hv]) (fun y hy => by cases hy) (by simp), hv]; rfl
    · rw [if_neg hl] at hv ⊢
      have hpl : (partOf b (0 : Int) (n : Int)).length = n := by have := part_length (l := b) (a := 0) (b := n) (by omega); simpa using this
      rw [fin (partOf b (0 : Int) (n : Int)) (by rw [hv]) (by rw [part_all]; exact hB.take n) (by omega), hv, part_all]
theorem rrw_v_is {b : List (List Ct)} {e : Int} {n : Nat} (hB : Byt (col b)) (hn : n ≤ 8) : rrw_v b e (n : Int) = rawV b e n := by unfold rrw_v; rw [rrw_is hB hn]; rfl
theorem raw_ok {b : List (List Ct)} {s t : List Int} (hc : col b = s ++ t) : rawV b 0 s.length = (num s, 0, partOf b (s.length : Int) (b.length : Int)) ∧ col (partOf b (s.length : Int) (b.length : Int)) = t := by
  have hl : b.length = s.length + t.length := by rw [← col_length, hc, List.length_append]
  refine ⟨?_, by rw [part_rest, hc]; simp⟩
  unfold rawV
  rw [if_neg (by simp), if_neg (by omega), hc]
  simp
end Go.Proofs.Ytcpbiijegbbafaa
