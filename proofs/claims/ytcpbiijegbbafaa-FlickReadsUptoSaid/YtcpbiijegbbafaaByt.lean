/- Numbers and their bytes. No condition. -/
import Derived.Test.YtcpbiijegbbafaaLoopA
set_option linter.unusedVariables false
set_option linter.unusedSimpArgs false
namespace Go.Proofs.Ytcpbiijegbbafaa
open Go.RowKit

theorem ob_step {α : Type} {c : Prop} [Decidable c] {a b : Option α} {r : Option α} (h : c) (h2 : a = r) : (bif decide c then a else b) = r := by rw [decide_eq_true h]; exact h2
theorem u64_range (x : Int) : 0 ≤ IntKind.u64.wrap x ∧ IntKind.u64.wrap x < 18446744073709551616 := by
  simp [IntKind.wrap, IntKind.bits, IntKind.signed]; omega
theorem u64_in {x : Int} (h0 : 0 ≤ x) (h1 : x < 18446744073709551616) : IntKind.u64.wrap x = x := by
  simp [IntKind.wrap, IntKind.bits, IntKind.signed]; omega
/-- A number's lowest bytes. -/
def byt : Nat → Int → List Int
  | 0, _ => []
  | n + 1, d => IntKind.u8.wrap d :: byt n (d / 256)
theorem byt_length : ∀ (n : Nat) (d : Int), (byt n d).length = n
  | 0, _ => rfl
  | n + 1, d => by simp [byt, byt_length n]
theorem shr8 {d : Int} : d.fdiv ((2 : Int) ^ min (Int.toNat (8 : Int)) IntKind.u64.bits) = d / 256 := by
  rw [show (2 : Int) ^ min (Int.toNat (8 : Int)) IntKind.u64.bits = 256 from rfl, Int.fdiv_eq_ediv_of_nonneg _ (by omega)]

def Byt (s : List Int) : Prop := ∀ y ∈ s, 0 ≤ y ∧ y < 256
theorem Byt.drop {s : List Int} (h : Byt s) (n : Nat) : Byt (s.drop n) := fun y hy => h y (List.mem_of_mem_drop hy)
theorem Byt.take {s : List Int} (h : Byt s) (n : Nat) : Byt (s.take n) := fun y hy => h y (List.mem_of_mem_take hy)
def num : List Int → Int
  | [] => 0
  | b :: t => b + 256 * num t
theorem num_range : ∀ {s : List Int}, Byt s → 0 ≤ num s ∧ num s < (256 : Int) ^ s.length
  | [], _ => ⟨Int.le_refl _, by decide⟩
  | b :: t, h => by
    obtain ⟨h1, h2⟩ := num_range (s := t) (fun y hy => h y (List.mem_cons_of_mem _ hy))
    obtain ⟨h3, h4⟩ := h b List.mem_cons_self
    simp only [num, List.length_cons, Int.pow_succ]
    omega
theorem num_snoc : ∀ (s : List Int) (x : Int), num (s ++ [x]) = num s + x * (256 : Int) ^ s.length
  | [], x => by simp [num]
  | b :: t, x => by
    simp only [List.cons_append, num, num_snoc t x, List.length_cons, Int.pow_succ]
    rw [Int.mul_add, Int.mul_left_comm, Int.mul_comm 256 ((256 : Int) ^ t.length)]
    omega
theorem u8_mod (d : Int) : IntKind.u8.wrap d = d % 256 := by simp [IntKind.wrap, IntKind.bits, IntKind.signed]
theorem byt_byt : ∀ (n : Nat) (d : Int), Byt (byt n d)
  | 0, _ => fun y hy => by cases hy
  | n + 1, d => fun y hy => by
    rcases List.mem_cons.1 hy with rfl | hy
    · rw [u8_mod]; omega
    · exact byt_byt n _ y hy
theorem or_bytes {a x k : Nat} (ha : a < 2 ^ (8 * k)) (hx : x < 256) (hk : k < 8) :
    IntKind.u64.wrap (((BitVec.ofInt IntKind.u64.bits (a : Int) ||| BitVec.ofInt IntKind.u64.bits (IntKind.u64.wrap ((x : Int) * (2 : Int) ^ min (8 * k) IntKind.u64.bits))).toNat : Nat) : Int) = (a : Int) + (x : Int) * (256 : Int) ^ k := by
  have hb : IntKind.u64.bits = 64 := rfl
  have hp : (2 : Nat) ^ (8 * k) * 256 ≤ 2 ^ 64 := by
    rw [show (256 : Nat) = 2 ^ 8 from rfl, ← Nat.pow_add]; exact Nat.pow_le_pow_right (by omega) (by omega)
  have hs : a + x * 2 ^ (8 * k) < 2 ^ 64 := by
    have : x * 2 ^ (8 * k) ≤ 255 * 2 ^ (8 * k) := Nat.mul_le_mul_right _ (by omega)
    omega
  have hx64 : x * 2 ^ (8 * k) < 2 ^ 64 := by omega
  have e1 : (x : Int) * (2 : Int) ^ min (8 * k) IntKind.u64.bits = ((x * 2 ^ (8 * k) : Nat) : Int) := by
    rw [hb, Nat.min_eq_left (by omega)]; push_cast; rfl
  rw [e1, u64_in (x := ((x * 2 ^ (8 * k) : Nat) : Int)) (by omega) (by omega), hb]
  rw [BitVec.toNat_or, BitVec.ofInt_natCast, BitVec.ofInt_natCast, BitVec.toNat_ofNat, BitVec.toNat_ofNat, Nat.mod_eq_of_lt (by omega), Nat.mod_eq_of_lt hx64]
  rw [Nat.or_comm, Nat.mul_comm x, ← Nat.two_pow_add_eq_or_of_lt ha, Nat.mul_comm]
  have e2 : ((x * 2 ^ (8 * k) + a : Nat) : Int) = (a : Int) + (x : Int) * (256 : Int) ^ k := by
    rw [show (2 : Nat) ^ (8 * k) = 256 ^ k by rw [Nat.pow_mul], Int.natCast_add, Int.natCast_mul, Int.natCast_pow]
    exact Int.add_comm _ _
  rw [u64_in (by omega) (by omega), e2]
theorem part_all {b : List (List Ct)} {n : Nat} : col (partOf b (0 : Int) (n : Int)) = (col b).take n := by rw [col_part]; simp
theorem part_rest {b : List (List Ct)} {n : Nat} : col (partOf b (n : Int) (b.length : Int)) = (col b).drop n := by
  rw [col_part, List.take_of_length_le]
  · simp
  · simp [col_length]
theorem num_byt : ∀ (n : Nat) (d : Nat), num (byt n (d : Int)) = ((d % 256 ^ n : Nat) : Int)
  | 0, d => by simp [byt, num, Nat.mod_one]
  | n + 1, d => by
    show IntKind.u8.wrap (d : Int) + 256 * num (byt n ((d : Int) / 256)) = _
    rw [show (d : Int) / 256 = ((d / 256 : Nat) : Int) by omega, num_byt n (d / 256), u8_mod, Nat.pow_succ, Nat.mul_comm (256 ^ n) 256, Nat.mod_mul]
    omega
theorem u64_mod (x : Int) : IntKind.u64.wrap x = x % 18446744073709551616 := by
  unfold IntKind.wrap; simp only [IntKind.signed, Bool.false_and]; rfl
theorem num_bytx (n : Nat) (x : Int) (hn : n ≤ 8) : num (byt n (IntKind.u64.wrap x)) = x % ((256 ^ n : Nat) : Int) := by
  obtain ⟨d, hd⟩ := Int.eq_ofNat_of_zero_le (u64_range x).1
  rw [hd, num_byt]
  have e : (d : Int) = x % 18446744073709551616 := by rw [← hd]; exact u64_mod x
  have hdvd : ((256 ^ n : Nat) : Int) ∣ 18446744073709551616 := by
    have : (256 : Nat) ^ n ∣ 256 ^ 8 := Nat.pow_dvd_pow 256 hn
    exact Int.natCast_dvd_natCast.2 this
  rw [show ((d % 256 ^ n : Nat) : Int) = (d : Int) % ((256 ^ n : Nat) : Int) from Int.natCast_emod d _, e]
  exact Int.emod_emod_of_dvd x hdvd
end Go.Proofs.Ytcpbiijegbbafaa
