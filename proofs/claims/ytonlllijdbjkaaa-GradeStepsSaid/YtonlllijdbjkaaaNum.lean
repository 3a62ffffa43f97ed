/- Plain laws on numbers held in their span: sums, products, quotients, roots. No condition. -/
import Derived.Test.YtonlllijdbjkaaaBase
import Derived.Laws.BitsAllLaws
set_option linter.unusedVariables false
namespace Go.Proofs.Ytonlllijdbjkaaa
open Go.RowKit

/-- A number, held in its span. -/
def heldS (n : Int) : Int := if 2147483648 < n then 2147483648 else if n < -2147483648 then -2147483648 else n
theorem heldS_bd (n : Int) : -2147483648 ≤ heldS n ∧ heldS n ≤ 2147483648 := by unfold heldS; split <;> (try split) <;> omega
theorem heldS_id {n : Int} (h0 : -2147483648 ≤ n) (h1 : n ≤ 2147483648) : heldS n = n := by unfold heldS; rw [if_neg (by omega), if_neg (by omega)]
theorem heldS_held (n : Int) : heldS (heldS n) = heldS n := heldS_id (heldS_bd n).1 (heldS_bd n).2
theorem heldS_hi {n : Int} (h : 2147483648 < n) : heldS n = 2147483648 := by unfold heldS; rw [if_pos h]
theorem heldS_lo {n : Int} (h : n < -2147483648) : heldS n = -2147483648 := by unfold heldS; rw [if_neg (by omega), if_pos h]
theorem heldS_mono {m n : Int} (h : m ≤ n) : heldS m ≤ heldS n := by unfold heldS; split <;> (try split) <;> omega
theorem heldS_pos {n : Int} (h : 0 < n) : 0 < heldS n := by unfold heldS; split <;> (try split) <;> omega

theorem mul_bd {x y B C : Int} (h1 : -B ≤ x) (h2 : x ≤ B) (h3 : -C ≤ y) (h4 : y ≤ C) : -(B * C) ≤ x * y ∧ x * y ≤ B * C := by
  have hB : 0 ≤ B := by omega
  have hC : 0 ≤ C := by omega
  have hx : x.natAbs ≤ B.natAbs := by omega
  have hy : y.natAbs ≤ C.natAbs := by omega
  have h : (x * y).natAbs ≤ (B * C).natAbs := by rw [Int.natAbs_mul, Int.natAbs_mul]; exact Nat.mul_le_mul hx hy
  have hBC : 0 ≤ B * C := Int.mul_nonneg hB hC
  omega

theorem held_mul_bd (a b : Int) : -4611686018427387904 ≤ heldS a * heldS b ∧ heldS a * heldS b ≤ 4611686018427387904 := by
  have ha := heldS_bd a
  have hb := heldS_bd b
  have := mul_bd ha.1 ha.2 hb.1 hb.2
  omega
theorem wrap_of {n : Int} (h0 : -9223372036854775808 ≤ n) (h1 : n ≤ 9223372036854775807) : wrap64 n = n := IntWalk.wrap64_in n ⟨h0, h1⟩
theorem wrap_held_mul (a b : Int) : wrap64 (heldS a * heldS b) = heldS a * heldS b := by
  have := held_mul_bd a b
  exact wrap_of (by omega) (by omega)

def addS (a b : Int) : Int := heldS (heldS a + heldS b)
def subS (a b : Int) : Int := heldS (heldS a - heldS b)
def mulS (a b : Int) : Int := heldS (heldS a * heldS b / 65536)
def absS (a : Int) : Int := if 0 ≤ heldS a then heldS a else -heldS a
def floorS (n d : Int) : Int := Int.fdiv n d
def divS (a b : Int) : Int :=
  if heldS b = 0 then (if 0 < heldS a then 2147483648 else if heldS a < 0 then -2147483648 else 0) else heldS (Int.fdiv (heldS a * 65536) (heldS b))
def unS (a : Int) : Int := if a < 0 then 0 else if 65536 < a then 65536 else a
def lerpS (a b t : Int) : Int := heldS (heldS a + (heldS b - heldS a) * unS t / 65536)
def partS (a : Int) : Int := heldS a % 65536
def ofS (n : Int) : Int := if 32768 < n then 2147483648 else if n < -32768 then -2147483648 else n * 65536

theorem unS_bd (a : Int) : 0 ≤ unS a ∧ unS a ≤ 65536 := by unfold unS; split <;> (try split) <;> omega
theorem unS_max (a : Int) : max 0 (min a 65536) = unS a := by unfold unS; split <;> (try split) <;> omega
theorem absS_bd (a : Int) : 0 ≤ absS a ∧ absS a ≤ 2147483648 := by have := heldS_bd a; unfold absS; split <;> omega
theorem abs_neg {a : Int} (h : heldS a < 0) : heldS (-heldS a) = absS a := by
  have := heldS_bd a
  unfold absS
  rw [if_neg (by omega), heldS_id (by omega) (by omega)]
theorem abs_pos {a : Int} (h : 0 ≤ heldS a) : heldS (heldS a) = absS a := by
  unfold absS
  rw [if_pos h, heldS_held]
theorem partS_bd (a : Int) : 0 ≤ partS a ∧ partS a ≤ 65535 := by unfold partS; omega
theorem addS_bd (a b : Int) : -2147483648 ≤ addS a b ∧ addS a b ≤ 2147483648 := heldS_bd _
theorem subS_bd (a b : Int) : -2147483648 ≤ subS a b ∧ subS a b ≤ 2147483648 := heldS_bd _
theorem mulS_bd (a b : Int) : -2147483648 ≤ mulS a b ∧ mulS a b ≤ 2147483648 := heldS_bd _
theorem lerpS_bd (a b t : Int) : -2147483648 ≤ lerpS a b t ∧ lerpS a b t ≤ 2147483648 := heldS_bd _
theorem divS_bd (a b : Int) : -2147483648 ≤ divS a b ∧ divS a b ≤ 2147483648 := by
  unfold divS
  repeat' split
  all_goals first | omega | exact heldS_bd _

theorem lerp_bd (a b t : Int) : -281474976710656 ≤ (heldS b - heldS a) * unS t ∧ (heldS b - heldS a) * unS t ≤ 281474976710656 := by
  have ha := heldS_bd a
  have hb := heldS_bd b
  have ht := unS_bd t
  have := mul_bd (x := heldS b - heldS a) (y := unS t) (B := 4294967296) (C := 65536) (by omega) (by omega) (by omega) (by omega)
  omega
theorem tmod_bd (n d : Int) (hd : 0 < d) : -d < n.tmod d ∧ n.tmod d < d := by
  have h1 := Int.tmod_lt_of_pos n hd
  have h2 := Int.lt_tmod_of_pos n hd
  omega
theorem i64_and65535 (n : Int) : bits .and .i64 n 65535 = n % 65536 := by
  have h127 : (BitVec.ofInt 64 65535).toNat = 2 ^ 16 - 1 := by decide
  have key : (BitVec.ofInt 64 n &&& BitVec.ofInt 64 65535).toNat = (n % ((2 ^ 64 : Nat) : Int)).toNat % 2 ^ 16 := by
    rw [BitVec.toNat_and, BitVec.toNat_ofInt, h127, Nat.and_two_pow_sub_one_eq_mod]
  show IntKind.i64.wrap ((BitVec.ofInt 64 n &&& BitVec.ofInt 64 65535).toNat : Nat) = n % 65536
  rw [key, IntKind.wrap_i64]
  omega
theorem i64_or_nat (a b : Nat) (ha : a < 9223372036854775808) (hb : b < 9223372036854775808) : bits .or .i64 (a : Int) (b : Int) = ((a ||| b : Nat) : Int) := by
  have hx : a ||| b < 2 ^ 63 := Nat.or_lt_two_pow (by omega) (by omega)
  show IntKind.i64.wrap ((BitVec.ofInt 64 (a : Int) ||| BitVec.ofInt 64 (b : Int)).toNat : Int) = _
  rw [BitVec.toNat_or, ofInt_u64 a (by omega), ofInt_u64 b (by omega), IntKind.wrap_i64]
  omega

/-! ### Quotients, as Go has them -/
theorem down_core (n d : Int) (hd : 0 < d) : (if n.tmod d < 0 then (n - (n.tmod d + d)).tdiv d else (n - n.tmod d).tdiv d) = n / d := by
  have h1 := Int.mul_ediv_add_emod n d
  have h2 := Int.emod_nonneg n (show d ≠ 0 by omega)
  have h3 := Int.emod_lt_of_pos n hd
  have key : ∀ r, r = n % d → (n - r).tdiv d = n / d := by
    intro r hr
    have e : n - r = d * (n / d) := by omega
    rw [e]
    exact Int.mul_tdiv_cancel_left _ (by omega)
  have hm := Int.mul_tdiv_add_tmod n d
  by_cases h0 : 0 ≤ n
  · have e : n.tmod d = n % d := Int.tmod_eq_emod_of_nonneg h0
    rw [e, if_neg (by omega)]
    exact key _ rfl
  · have e : n.tmod d = -((-n) % d) := by
      rw [← Int.neg_neg n, Int.neg_tmod, Int.neg_neg, Int.tmod_eq_emod_of_nonneg (by omega)]
    have h4 := Int.emod_nonneg (-n) (show d ≠ 0 by omega)
    have h5 := Int.emod_lt_of_pos (-n) hd
    have h6 := Int.mul_ediv_add_emod (-n) d
    have uniq : ∀ q r : Int, n = d * q + r → 0 ≤ r → r < d → r = n % d := by
      intro q r hq hr0 hr1
      rw [hq, Int.add_comm, Int.add_mul_emod_self_left, Int.emod_eq_of_lt hr0 hr1]
    split
    · refine key _ (uniq (-((-n) / d) - 1) _ ?_ (by omega) (by omega))
      rw [e]
      have : d * (-((-n) / d) - 1) = -(d * ((-n) / d)) - d := by rw [Int.mul_sub, Int.mul_neg, Int.mul_one]
      omega
    · refine key _ (uniq (-((-n) / d)) _ ?_ (by omega) (by omega))
      rw [e, Int.mul_neg]
      omega

theorem floor_core (n d : Int) (hd : d ≠ 0) : (if n.tmod d ≠ 0 ∧ ((n < 0) ↔ ¬ (d < 0)) then n.tdiv d - 1 else n.tdiv d) = Int.fdiv n d := by
  rw [Int.fdiv_eq_tdiv]
  by_cases hdv : d ∣ n
  · have : n.tmod d = 0 := Int.tmod_eq_zero_of_dvd hdv
    rw [if_pos hdv, if_neg (by omega)]; omega
  · have hne : n.tmod d ≠ 0 := fun h => hdv (Int.dvd_of_tmod_eq_zero h)
    rcases Int.lt_or_lt_of_ne hd with hd' | hd'
    · have hs := Int.sign_eq_neg_one_of_neg hd'
      by_cases hn : n < 0
      · rw [if_neg (by omega), if_neg hdv, if_neg (by omega), if_neg (by omega), hs]; omega
      · rw [if_pos (by omega), if_neg hdv, if_pos (by omega), if_neg (by omega)]
    · have hs := Int.sign_eq_one_of_pos hd'
      by_cases hn : n < 0
      · rw [if_pos (by omega), if_neg hdv, if_neg (by omega), if_pos (by omega), hs]
      · rw [if_neg (by omega), if_neg hdv, if_pos (by omega), if_pos (by omega)]; omega

theorem tdiv_bd (n d : Int) (h0 : -4611686018427387904 ≤ n) (h1 : n ≤ 4611686018427387904) : -4611686018427387904 ≤ n.tdiv d ∧ n.tdiv d ≤ 4611686018427387904 := by
  have h : (n.tdiv d).natAbs ≤ n.natAbs := by rw [Int.natAbs_tdiv]; exact Nat.div_le_self _ _
  omega
theorem tdiv_wrap (n d : Int) (h0 : -4611686018427387904 ≤ n) (h1 : n ≤ 4611686018427387904) : wrap64 (n.tdiv d) = n.tdiv d := by
  have := tdiv_bd n d h0 h1
  exact wrap_of (by omega) (by omega)
theorem unS_neg {a : Int} (h : a ≤ 0) : unS a = 0 := by unfold unS; split <;> (try split) <;> omega

theorem fdiv_pos {n d : Int} (h : 0 < d) : n / d = Int.fdiv n d := (Int.fdiv_eq_ediv_of_nonneg n (by omega)).symm
theorem fdiv_neg {n d : Int} (h : d < 0) : (-n) / (-d) = Int.fdiv n d := by
  rw [← Int.neg_fdiv_neg n d]
  exact (Int.fdiv_eq_ediv_of_nonneg _ (by omega)).symm
theorem fdiv_bd (n d : Int) (hd : d ≠ 0) (h0 : -4611686018427387904 ≤ n) (h1 : n ≤ 4611686018427387904) : -4611686018427387905 ≤ Int.fdiv n d ∧ Int.fdiv n d ≤ 4611686018427387904 := by
  have := tdiv_bd n d h0 h1
  rw [← floor_core n d hd]
  split <;> omega
theorem ofS_hi {n : Int} (h : 1048576 < n) : heldS 68719476736 = ofS n := by unfold ofS; rw [if_pos (by omega)]; decide
theorem ofS_lo {n : Int} (h : n < -1048576) : heldS (-68719476736) = ofS n := by unfold ofS; rw [if_neg (by omega), if_pos (by omega)]; decide
theorem ofS_mid (n : Int) : heldS (n * 65536) = ofS n := by unfold ofS heldS; split <;> (try split) <;> (try split) <;> (try split) <;> omega
theorem divS_zero_pos {a b : Int} (h : heldS b = 0) (ha : 0 < heldS a) : divS a b = 2147483648 := by unfold divS; rw [if_pos h, if_pos ha]
theorem divS_zero_neg {a b : Int} (h : heldS b = 0) (ha : heldS a < 0) : divS a b = -2147483648 := by unfold divS; rw [if_pos h, if_neg (by omega), if_pos ha]
theorem divS_zero_zero {a b : Int} (h : heldS b = 0) (ha : heldS a = 0) : divS a b = 0 := by unfold divS; rw [if_pos h, if_neg (by omega), if_neg (by omega)]
theorem divS_of {a b : Int} (h : heldS b ≠ 0) : divS a b = heldS (Int.fdiv (heldS a * 65536) (heldS b)) := by unfold divS; rw [if_neg h]

/-! ### Square roots -/
def pw (k : Nat) : Int := ((2 ^ k : Nat) : Int)
theorem pw_pos (k : Nat) : 1 ≤ pw k := by unfold pw; have := Nat.one_le_two_pow (n := k); omega
theorem pw_succ (k : Nat) : pw (k + 1) = pw k + pw k := by unfold pw; rw [Nat.pow_succ]; omega
theorem pw_le {k n : Nat} (h : k ≤ n) : pw k ≤ pw n := by unfold pw; have := Nat.pow_le_pow_right (n := 2) (by omega) h; omega
def bitOf : Nat → Int
  | 0 => 0
  | k + 1 => pw k
def rootGo (m : Int) : Nat → Int → Int
  | 0, r => r
  | k + 1, r => rootGo m k (if (r + pw k) * (r + pw k) ≤ m then r + pw k else r)
def rootS (a : Int) : Int := if heldS a ≤ 0 then 0 else rootGo (heldS a * 65536) 25 0

theorem rootGo_spec (m : Int) : ∀ (j : Nat) (r : Int), 0 ≤ r → r * r ≤ m → m < (r + pw j) * (r + pw j) →
    (rootGo m j r) * (rootGo m j r) ≤ m ∧ m < (rootGo m j r + 1) * (rootGo m j r + 1) ∧ r ≤ rootGo m j r ∧ rootGo m j r < r + pw j := by
  intro j
  induction j with
  | zero => intro r h0 h1 h2; exact ⟨h1, h2, Int.le_refl _, by simp [rootGo, pw]; omega⟩
  | succ j ih =>
    intro r h0 h1 h2
    have hp := pw_pos j
    rw [pw_succ] at h2 ⊢
    unfold rootGo
    split
    · rename_i h
      have := ih (r + pw j) (by omega) h (by rw [show r + pw j + pw j = r + (pw j + pw j) by omega]; exact h2)
      refine ⟨this.1, this.2.1, by omega, by omega⟩
    · rename_i h
      have := ih r h0 h1 (by omega)
      refine ⟨this.1, this.2.1, this.2.2.1, by omega⟩

theorem sq_unique {m s t : Int} (hs0 : 0 ≤ s) (ht0 : 0 ≤ t) (hs : s * s ≤ m) (hs' : m < (s + 1) * (s + 1)) (ht : t * t ≤ m) (ht' : m < (t + 1) * (t + 1)) : s = t := by
  rcases Int.lt_trichotomy s t with h | h | h
  · have := Int.mul_le_mul (show s + 1 ≤ t by omega) (show s + 1 ≤ t by omega) (by omega) ht0
    omega
  · exact h
  · have := Int.mul_le_mul (show t + 1 ≤ s by omega) (show t + 1 ≤ s by omega) (by omega) hs0
    omega

theorem rootS_spec {a : Int} (h : 0 < heldS a) : 0 ≤ rootS a ∧ rootS a < 16777216 ∧ rootS a * rootS a ≤ heldS a * 65536 ∧ heldS a * 65536 < (rootS a + 1) * (rootS a + 1) := by
  have hb := heldS_bd a
  have e : rootS a = rootGo (heldS a * 65536) 25 0 := by unfold rootS; rw [if_neg (by omega)]
  have k := rootGo_spec (heldS a * 65536) 25 0 (by omega) (by omega) (by simp only [pw]; omega)
  rw [← e] at k
  refine ⟨k.2.2.1, ?_, k.1, k.2.1⟩
  rcases Int.lt_or_le (rootS a) 16777216 with h' | h'
  · exact h'
  · have := Int.mul_le_mul h' h' (by omega) (by omega : (0:Int) ≤ rootS a)
    omega
theorem rootS_zero {a : Int} (h : heldS a ≤ 0) : rootS a = 0 := by unfold rootS; rw [if_pos h]
theorem rootS_bd (a : Int) : 0 ≤ rootS a ∧ rootS a < 16777216 := by
  by_cases h : 0 < heldS a
  · exact ⟨(rootS_spec h).1, (rootS_spec h).2.1⟩
  · rw [rootS_zero (by omega)]; omega
theorem rootS_eq {a s : Int} (h : 0 < heldS a) (h0 : 0 ≤ s) (h1 : s * s ≤ heldS a * 65536) (h2 : heldS a * 65536 < (s + 1) * (s + 1)) : rootS a = s := by
  have k := rootS_spec h
  exact sq_unique k.1 h0 k.2.2.1 k.2.2.2 h1 h2

/-- The bit that is tried joins the root so far. -/
theorem or_bit (r : Int) (k : Nat) (hk : k ≤ 24) (h0 : 0 ≤ r) (h1 : r ≤ 33554432) (hd : ∃ q : Nat, r = ((2 ^ (k + 1) * q : Nat) : Int)) : bits .or .i64 r (pw k) = r + pw k := by
  obtain ⟨q, rfl⟩ := hd
  have h24 : (2 : Nat) ^ k ≤ 2 ^ 24 := Nat.pow_le_pow_right (by omega) hk
  unfold pw
  rw [i64_or_nat _ _ (by omega) (by omega), ← Nat.two_pow_add_eq_or_of_lt (Nat.pow_lt_pow_right (by omega) (by omega))]
  omega
theorem or_next {x : Int} {k : Nat} (h : ∃ q : Nat, x = ((2 ^ (k + 1) * q : Nat) : Int)) : ∃ q : Nat, x + pw k = ((2 ^ k * q : Nat) : Int) := by
  obtain ⟨q, rfl⟩ := h
  refine ⟨2 * q + 1, ?_⟩
  unfold pw
  have e : 2 ^ (k + 1) * q + 2 ^ k = 2 ^ k * (2 * q + 1) := by rw [Nat.mul_add, ← Nat.mul_assoc, Nat.pow_succ, Nat.mul_one]
  rw [← e]
  exact (Int.natCast_add _ _).symm
theorem or_stay {x : Int} {k : Nat} (h : ∃ q : Nat, x = ((2 ^ (k + 1) * q : Nat) : Int)) : ∃ q : Nat, x = ((2 ^ k * q : Nat) : Int) := by
  obtain ⟨q, rfl⟩ := h
  exact ⟨2 * q, by rw [← Nat.mul_assoc, ← Nat.pow_succ]⟩
end Go.Proofs.Ytonlllijdbjkaaa
