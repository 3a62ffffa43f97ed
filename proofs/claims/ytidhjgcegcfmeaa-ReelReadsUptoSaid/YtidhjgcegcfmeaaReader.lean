/- A reader's values in plain numbers. No condition. -/
import Derived.Test.YtidhjgcegcfmeaaEngReel5
import Derived.Test.YtidhjgcegcfmeaaReelEnc
set_option linter.unusedVariables false
set_option linter.unusedSimpArgs false
namespace Go.Proofs.Ytidhjgcegcfmeaa
open Go.RowKit

/-- Bytes; the number that they are, the lowest ahead. -/
def Byt (s : List Int) : Prop := ∀ y ∈ s, 0 ≤ y ∧ y < 256
theorem Byt.drop {s : List Int} (h : Byt s) (n : Nat) : Byt (s.drop n) := fun y hy => h y (List.mem_of_mem_drop hy)
theorem Byt.take {s : List Int} (h : Byt s) (n : Nat) : Byt (s.take n) := fun y hy => h y (List.mem_of_mem_take hy)
def num : List Int → Int
  | [] => 0
  | b :: t => b + 256 * num t
theorem num_range : ∀ {s : List Int}, Byt s → 0 ≤ num s ∧ num s < (256 : Int) ^ s.length
  | [], _ => ⟨Int.le_refl _, by decide⟩
  | b :: t, h => by
    obtain ⟨h1, h2⟩ := num_range (s := t) (fun y hy => h y (List.mem_cons_of_mem _ hy))
    obtain ⟨h3, h4⟩ := h b List.mem_cons_self
    simp only [num, List.length_cons, Int.pow_succ]
    omega
theorem num_snoc : ∀ (s : List Int) (x : Int), num (s ++ [x]) = num s + x * (256 : Int) ^ s.length
  | [], x => by simp [num]
  | b :: t, x => by
    simp only [List.cons_append, num, num_snoc t x, List.length_cons, Int.pow_succ]
    rw [Int.mul_add, Int.mul_left_comm, Int.mul_comm 256 ((256 : Int) ^ t.length)]
    omega
theorem u8_mod (d : Int) : IntKind.u8.wrap d = d % 256 := by simp [IntKind.wrap, IntKind.bits, IntKind.signed]
theorem byt_byt : ∀ (n : Nat) (d : Int), Byt (byt n d)
  | 0, _ => fun y hy => by cases hy
  | n + 1, d => fun y hy => by
    rcases List.mem_cons.1 hy with rfl | hy
    · rw [u8_mod]; omega
    · exact byt_byt n _ y hy
theorem or_bytes {a x k : Nat} (ha : a < 2 ^ (8 * k)) (hx : x < 256) (hk : k < 8) :
    IntKind.u64.wrap (((BitVec.ofInt IntKind.u64.bits (a : Int) ||| BitVec.ofInt IntKind.u64.bits (IntKind.u64.wrap ((x : Int) * (2 : Int) ^ min (8 * k) IntKind.u64.bits))).toNat : Nat) : Int) = (a : Int) + (x : Int) * (256 : Int) ^ k := by
  have hb : IntKind.u64.bits = 64 := rfl
  have hp : (2 : Nat) ^ (8 * k) * 256 ≤ 2 ^ 64 := by
    rw [show (256 : Nat) = 2 ^ 8 from rfl, ← Nat.pow_add]; exact Nat.pow_le_pow_right (by omega) (by omega)
  have hs : a + x * 2 ^ (8 * k) < 2 ^ 64 := by
    have : x * 2 ^ (8 * k) ≤ 255 * 2 ^ (8 * k) := Nat.mul_le_mul_right _ (by omega)
    omega
  have hx64 : x * 2 ^ (8 * k) < 2 ^ 64 := by omega
  have e1 : (x : Int) * (2 : Int) ^ min (8 * k) IntKind.u64.bits = ((x * 2 ^ (8 * k) : Nat) : Int) := by
    rw [hb, Nat.min_eq_left (by omega)]; push_cast; rfl
  rw [e1, u64_in (x := ((x * 2 ^ (8 * k) : Nat) : Int)) (by omega) (by omega), hb]
  rw [BitVec.toNat_or, BitVec.ofInt_natCast, BitVec.ofInt_natCast, BitVec.toNat_ofNat, BitVec.toNat_ofNat, Nat.mod_eq_of_lt (by omega), Nat.mod_eq_of_lt hx64]
  rw [Nat.or_comm, Nat.mul_comm x, ← Nat.two_pow_add_eq_or_of_lt ha, Nat.mul_comm]
  have e2 : ((x * 2 ^ (8 * k) + a : Nat) : Int) = (a : Int) + (x : Int) * (256 : Int) ^ k := by
    rw [show (2 : Nat) ^ (8 * k) = 256 ^ k by rw [Nat.pow_mul], Int.natCast_add, Int.natCast_mul, Int.natCast_pow]
    exact Int.add_comm _ _
  rw [u64_in (by omega) (by omega), e2]
theorem part_all {b : List (List Ct)} {n : Nat} : col (partOf b (0 : Int) (n : Int)) = (col b).take n := by rw [col_part]; simp
theorem part_rest {b : List (List Ct)} {n : Nat} : col (partOf b (n : Int) (b.length : Int)) = (col b).drop n := by
  rw [col_part, List.take_of_length_le]
  · simp
  · simp [col_length]
theorem rtk_is {b : List (List Ct)} {e : Int} {n : Nat} : rtk_res b e (n : Int) = some (if e ≠ 0 then (e, b, []) else if b.length < n then (9, [], []) else (0, partOf b (n : Int) (b.length : Int), partOf b (0 : Int) (n : Int))) := by
  unfold rtk_res
  by_cases he : e = 0
  · subst he
    by_cases hn : b.length < n
    · have q : (n : Int) > (b.length : Int) := by omega
      simp [hn, cond_dec q]
    · have q : ¬ (n : Int) > (b.length : Int) := by omega
      have q1 : (0 : Int) ≤ 0 ∧ (0 : Int) ≤ (n : Int) ∧ (n : Int) ≤ (b.length : Int) := by omega
      have q2 : (0 : Int) ≤ (n : Int) ∧ (n : Int) ≤ (b.length : Int) ∧ (b.length : Int) ≤ (b.length : Int) := by omega
      rw [cond_not q, cond_dec q1, cond_dec q2]
      simp [hn]
  · have : (e != 0) = true := by simpa using he
    rw [this, if_pos he]; rfl
/-- What the next number is. -/
def rawV (b : List (List Ct)) (e : Int) (n : Nat) : Int × Int × List (List Ct) :=
  if e ≠ 0 then (0, e, b) else if b.length < n then (0, 9, []) else (num ((col b).take n), 0, partOf b (n : Int) (b.length : Int))
theorem rrw_it {b : List (List Ct)} {e x1 : Int} {p : List (List Ct)} (hp : (rtk_v b e x1).snd.snd = p) (hB : Byt (col p)) (hl : p.length ≤ 8) : ∀ (d i fuel : Nat), i + d = p.length → d < fuel →
    iter (rrw_L0_step b e x1) fuel (num ((col p).take i), (i : Int)) = some (num (col p), (p.length : Int)) := by
  intro d
  induction d with
  | zero =>
    intro i fuel hi hf
    obtain ⟨fuel, rfl⟩ : ∃ k, fuel = k + 1 := ⟨fuel - 1, by omega⟩
    have q : ¬ ((i : Int) < (p.length : Int)) := by omega
    have hi' : i = p.length := by omega
    refine iter_inr ?_
    simp only [rrw_L0_step, hp, cond_not q]
    rw [List.take_of_length_le (by rw [col_length]; omega), hi']
  | succ d ih =>
    intro i fuel hi hf
    obtain ⟨fuel, rfl⟩ : ∃ k, fuel = k + 1 := ⟨fuel - 1, by omega⟩
    have q : ((i : Int) < (p.length : Int)) := by omega
    have q1 : (0 : Int) ≤ (i : Int) ∧ (i : Int) < (p.length : Int) := by omega
    have w : IntKind.i64.wrap ((8 : Int) * (i : Int)) = ((8 * i : Nat) : Int) := by rw [wrap_in (by omega) (by omega)]; omega
    have q2 : (0 : Int) ≤ ((8 * i : Nat) : Int) := by omega
    have w1 : IntKind.i64.wrap ((i : Int) + 1) = ((i + 1 : Nat) : Int) := by rw [wrap_in (by omega) (by omega)]; omega
    have hil : i < (col p).length := by rw [col_length]; omega
    have hx := hB ((col p).getD i 0) (by simp [List.getD, hil])
    have htk : (col p).take (i + 1) = (col p).take i ++ [(col p).getD i 0] := by
      rw [List.take_add_one]; simp [List.getD, hil]
    have hr := num_range (hB.take i)
    have hlen : ((col p).take i).length = i := by simp; omega
    rw [hlen] at hr
    obtain ⟨a, ha⟩ := Int.eq_ofNat_of_zero_le hr.1
    obtain ⟨x, hx'⟩ := Int.eq_ofNat_of_zero_le hx.1
    have hst : rrw_L0_step b e x1 (num ((col p).take i), (i : Int)) = some (.inl (num ((col p).take (i + 1)), ((i + 1 : Nat) : Int))) := by
      simp only [rrw_L0_step, hp, cond_dec q, cond_dec q1, w, cond_dec q2, w1, Int.toNat_natCast]
      rw [htk, num_snoc, hlen, ha, rd_col, hx', u64_in (x := (x : Int)) (by omega) (by omega)]
      rw [or_bytes (by
        have : ((a : Int)) < ((2 ^ (8 * i) : Nat) : Int) := by
          rw [← ha]; refine Int.lt_of_lt_of_le hr.2 (Int.le_of_eq ?_)
          rw [show (2 : Nat) ^ (8 * i) = 256 ^ i by rw [Nat.pow_mul], Int.natCast_pow]; rfl
        omega) (by omega) (by omega)]
    rw [iter_inl hst]
    exact ih (i + 1) fuel (by omega) (by omega)
theorem rrw_is {b : List (List Ct)} {e : Int} {n : Nat} (hB : Byt (col b)) (hn : n ≤ 8) : rrw_res b e (n : Int) = some (rawV b e n) := by
  have ht := rtk_is (b := b) (e := e) (n := n)
  have hv : rtk_v b e (n : Int) = (if e ≠ 0 then (e, b, []) else if b.length < n then (9, [], []) else (0, partOf b (n : Int) (b.length : Int), partOf b (0 : Int) (n : Int))) := by unfold rtk_v; rw [ht]; rfl
  have fin : ∀ (p : List (List Ct)), (rtk_v b e (n : Int)).snd.snd = p → Byt (col p) → p.length ≤ 8 → rrw_res b e (n : Int) = some (num (col p), (rtk_v b e (n : Int)).fst, (rtk_v b e (n : Int)).snd.fst) := by
    intro p hp hB' hl
    have := rrw_it hp hB' hl p.length 0 1000 (by omega) (by omega)
    rw [show num ((col p).take 0) = 0 from rfl, show ((0 : Nat) : Int) = 0 from rfl] at this
    have p1 : rrw_L0_p b e (n : Int) = true := by unfold rrw_L0_p; rw [this]; rfl
    have p2 : (rrw_L0_v b e (n : Int)).1 = num (col p) := by unfold rrw_L0_v loopRes; rw [this]; rfl
    unfold rrw_res
    rw [ht, p1, p2]
    rfl
  unfold rawV
  by_cases he : e ≠ 0
  · rw [if_pos he] at hv ⊢
    rw [fin [] (by rw [hv]) (fun y hy => by cases hy) (by simp), hv]; rfl
  · rw [if_neg he] at hv ⊢
    by_cases hl : b.length < n
    · rw [if_pos hl] at hv ⊢
      rw [fin [] (by rw [hv]) (fun y hy => by cases hy) (by simp), hv]; rfl
    · rw [if_neg hl] at hv ⊢
      have hpl : (partOf b (0 : Int) (n : Int)).length = n := by have := part_length (l := b) (a := 0) (b := n) (by omega); simpa using this
      rw [fin (partOf b (0 : Int) (n : Int)) (by rw [hv]) (by rw [part_all]; exact hB.take n) (by omega), hv, part_all]
theorem rrw_v_is {b : List (List Ct)} {e : Int} {n : Nat} (hB : Byt (col b)) (hn : n ≤ 8) : rrw_v b e (n : Int) = rawV b e n := by unfold rrw_v; rw [rrw_is hB hn]; rfl
/-- What was laid is read. -/
theorem raw_ok {b : List (List Ct)} {s t : List Int} (hc : col b = s ++ t) : rawV b 0 s.length = (num s, 0, partOf b (s.length : Int) (b.length : Int)) ∧ col (partOf b (s.length : Int) (b.length : Int)) = t := by
  have hl : b.length = s.length + t.length := by rw [← col_length, hc, List.length_append]
  refine ⟨?_, by rw [part_rest, hc]; simp⟩
  unfold rawV
  rw [if_neg (by simp), if_neg (by omega), hc]
  simp
theorem num_byt : ∀ (n : Nat) (d : Nat), num (byt n (d : Int)) = ((d % 256 ^ n : Nat) : Int)
  | 0, d => by simp [byt, num, Nat.mod_one]
  | n + 1, d => by
    show IntKind.u8.wrap (d : Int) + 256 * num (byt n ((d : Int) / 256)) = _
    rw [show (d : Int) / 256 = ((d / 256 : Nat) : Int) by omega, num_byt n (d / 256), u8_mod, Nat.pow_succ, Nat.mul_comm (256 ^ n) 256, Nat.mod_mul]
    omega
theorem u64_mod (x : Int) : IntKind.u64.wrap x = x % 18446744073709551616 := by
  unfold IntKind.wrap; simp only [IntKind.signed, Bool.false_and]; rfl
/-- The number that n bytes of x are. -/
theorem num_bytx (n : Nat) (x : Int) (hn : n ≤ 8) : num (byt n (IntKind.u64.wrap x)) = x % ((256 ^ n : Nat) : Int) := by
  obtain ⟨d, hd⟩ := Int.eq_ofNat_of_zero_le (u64_range x).1
  rw [hd, num_byt]
  have e : (d : Int) = x % 18446744073709551616 := by rw [← hd]; exact u64_mod x
  have hdvd : ((256 ^ n : Nat) : Int) ∣ 18446744073709551616 := by
    have : (256 : Nat) ^ n ∣ 256 ^ 8 := Nat.pow_dvd_pow 256 hn
    exact Int.natCast_dvd_natCast.2 this
  rw [show ((d % 256 ^ n : Nat) : Int) = (d : Int) % ((256 ^ n : Nat) : Int) from Int.natCast_emod d _, e]
  exact Int.emod_emod_of_dvd x hdvd
end Go.Proofs.Ytidhjgcegcfmeaa
