/- A reader's steps: what they answer, whatever the bytes are; what was laid is read. No condition. -/
import Derived.Test.YtcpbiijegbbafaaEngJob2
import Derived.Test.YtcpbiijegbbafaaReaderB
import Derived.Test.YtcpbiijegbbafaaJobW
set_option linter.unusedVariables false
set_option linter.unusedSimpArgs false
namespace Go.Proofs.Ytcpbiijegbbafaa
open Go.RowKit

theorem raw_laid {b : List (List Ct)} {t : List Int} {n : Nat} {x : Int} (hB : Byt (col b)) (hn : n ≤ 8) (hc : col b = byt n (IntKind.u64.wrap x) ++ t) : ∃ b', rrw_res b 0 (n : Int) = some (x % ((256 ^ n : Nat) : Int), 0, b') ∧ rrw_v b 0 (n : Int) = (x % ((256 ^ n : Nat) : Int), 0, b') ∧ col b' = t := by
  obtain ⟨h1, h2⟩ := raw_ok hc
  rw [byt_length] at h1 h2
  rw [num_bytx n x hn] at h1
  exact ⟨_, by rw [rrw_is hB hn, h1], by rw [rrw_v_is hB hn, h1], h2⟩
theorem Byt.right {s t : List Int} (h : Byt (s ++ t)) : Byt t := fun y hy => h y (List.mem_append_right _ hy)
theorem rfx_laid {b : List (List Ct)} {t : List Int} {x : Int} (hB : Byt (col b)) (h0 : -2147483648 ≤ x) (h1 : x ≤ 2147483648) (hc : col b = byt 5 (IntKind.u64.wrap x) ++ t) : ∃ b', rfx_res b 0 = some (x, 0, b') ∧ rfx_v b 0 = (x, 0, b') ∧ col b' = t := by
  obtain ⟨b', g1, g2, g3⟩ := raw_laid hB (by omega) hc
  rw [show (((5 : Nat)) : Int) = 5 from rfl, show (((256 ^ 5 : Nat)) : Int) = 1099511627776 from rfl] at g1 g2
  have hsx : (IntKind.i64.wrap (IntKind.u64.wrap ((x % 1099511627776) * (2 : Int) ^ min (Int.toNat (24 : Int)) IntKind.u64.bits))).fdiv ((2 : Int) ^ min (Int.toNat (24 : Int)) IntKind.i64.bits) = x := by
    rw [show (2 : Int) ^ min (Int.toNat (24 : Int)) IntKind.u64.bits = 16777216 from rfl, show (2 : Int) ^ min (Int.toNat (24 : Int)) IntKind.i64.bits = 16777216 from rfl]
    rw [u64_in (by omega) (by omega), Int.fdiv_eq_ediv_of_nonneg _ (by omega), wrap_eq]
    unfold RowKit.wrap64
    omega
  have hr : rfx_res b 0 = some (x, 0, b') := by
    unfold rfx_res
    rw [g1, g2, hsx, cond_not (by omega), cond_not (by omega)]
    rfl
  exact ⟨b', hr, by unfold rfx_v; rw [hr]; rfl, g3⟩
theorem rvc_laid {b : List (List Ct)} {t : List Int} {x y z : Int} (hB : Byt (col b)) (hx : -2147483648 ≤ x ∧ x ≤ 2147483648) (hy : -2147483648 ≤ y ∧ y ≤ 2147483648) (hz : -2147483648 ≤ z ∧ z ≤ 2147483648)
    (hc : col b = byt 5 (IntKind.u64.wrap x) ++ (byt 5 (IntKind.u64.wrap y) ++ byt 5 (IntKind.u64.wrap z)) ++ t) :
    ∃ b', (rvc_res b 0 = some (0, x, y, z, b') ∧ rvc_v b 0 = (0, x, y, z, b')) ∧ (rhu_res b 0 = some (0, x, y, z, b') ∧ rhu_v b 0 = (0, x, y, z, b')) ∧ col b' = t := by
  rw [List.append_assoc, List.append_assoc] at hc
  obtain ⟨b1, g1, g2, g3⟩ := rfx_laid hB hx.1 hx.2 hc
  have hB1 : Byt (col b1) := by rw [g3]; rw [hc] at hB; exact hB.right
  obtain ⟨b2, k1, k2, k3⟩ := rfx_laid hB1 hy.1 hy.2 g3
  have hB2 : Byt (col b2) := by rw [k3]; rw [g3] at hB1; exact hB1.right
  obtain ⟨b3, m1, m2, m3⟩ := rfx_laid hB2 hz.1 hz.2 k3
  have hr : rvc_res b 0 = some (0, x, y, z, b3) := by unfold rvc_res; simp only [g1, g2, k1, k2, m1, m2]; rfl
  have hr' : rhu_res b 0 = some (0, x, y, z, b3) := by unfold rhu_res; simp only [g1, g2, k1, k2, m1, m2]; rfl
  exact ⟨b3, ⟨hr, by unfold rvc_v; rw [hr]; rfl⟩, ⟨hr', by unfold rhu_v; rw [hr']; rfl⟩, m3⟩
/-- What may stand in a point. -/
def Fx (x : Int) : Prop := -2147483648 ≤ x ∧ x ≤ 2147483648
theorem byt_num : ∀ {s : List Int}, Byt s → byt s.length (num s) = s := by
  intro s
  induction s with
  | nil => intro _; rfl
  | cons y s ih =>
    intro h
    have h1 := h y List.mem_cons_self
    have h2 := ih (fun z hz => h z (List.mem_cons_of_mem _ hz))
    have e1 : IntKind.u8.wrap (y + 256 * num s) = y := by rw [u8_mod]; omega
    have e2 : (y + 256 * num s) / 256 = num s := by omega
    simp only [List.length_cons, byt, num, e1, e2, h2]
theorem byt_1 {x y : Int} (h : x % 256 = y % 256) : byt 1 x = byt 1 y := by simp only [byt, u8_mod, h]
theorem byt_2 {x y : Int} (h : x % 65536 = y % 65536) : byt 2 x = byt 2 y := by
  simp only [byt, u8_mod]
  rw [show x % 256 = y % 256 by omega, show x / 256 % 256 = y / 256 % 256 by omega]
theorem byt_5 {x y : Int} (h : x % 1099511627776 = y % 1099511627776) : byt 5 x = byt 5 y := by
  simp only [byt, u8_mod]
  rw [show x % 256 = y % 256 by omega, show x / 256 % 256 = y / 256 % 256 by omega, show x / 256 / 256 % 256 = y / 256 / 256 % 256 by omega, show x / 256 / 256 / 256 % 256 = y / 256 / 256 / 256 % 256 by omega, show x / 256 / 256 / 256 / 256 % 256 = y / 256 / 256 / 256 / 256 % 256 by omega]
/-- What a read answers; if nothing is wrong behind it, nothing was ahead, and the bytes are what is said. -/
theorem raw_t {b : List (List Ct)} (e : Int) (hB : Byt (col b)) {n : Nat} (hn : n ≤ 8) :
    ∃ v e' b', rrw_res b e (n : Int) = some (v, e', b') ∧ rrw_v b e (n : Int) = (v, e', b') ∧ Byt (col b') ∧ (0 ≤ v ∧ v < (256 : Int) ^ n) ∧ b'.length ≤ b.length ∧ (e' = 0 → e = 0 ∧ col b = byt n v ++ col b') := by
  have hp : (0 : Int) < (256 : Int) ^ n := by
    have : 0 < (256 : Nat) ^ n := Nat.pow_pos (by omega)
    have h2 : ((0 : Nat) : Int) < (((256 : Nat) ^ n : Nat) : Int) := by omega
    rw [Int.natCast_pow] at h2
    exact h2
  have h1 := rrw_is (e := e) hB hn
  have h2 := rrw_v_is (e := e) hB hn
  unfold rawV at h1 h2
  by_cases he : e ≠ 0
  · rw [if_pos he] at h1 h2
    exact ⟨0, e, b, h1, h2, hB, ⟨by omega, hp⟩, Nat.le_refl _, fun h => absurd h he⟩
  · rw [if_neg he] at h1 h2
    by_cases hl : b.length < n
    · rw [if_pos hl] at h1 h2
      exact ⟨0, 9, [], h1, h2, fun y hy => (by cases hy), ⟨by omega, hp⟩, (by simp), fun h => (by cases h)⟩
    · rw [if_neg hl] at h1 h2
      have hr := num_range (hB.take n)
      have hlen : ((col b).take n).length = n := by rw [List.length_take, col_length]; omega
      rw [hlen] at hr
      have hb := byt_num (hB.take n)
      rw [hlen] at hb
      refine ⟨_, _, _, h1, h2, by rw [part_rest]; exact hB.drop n, hr, ?_, fun _ => ⟨by omega, by rw [part_rest, hb, List.take_append_drop]⟩⟩
      have := part_length (l := b) (a := n) (b := b.length) (Nat.le_refl _)
      omega
theorem by_t {b : List (List Ct)} (e : Int) (hB : Byt (col b)) :
    ∃ v e' b', (rby_res b e = some (v, e', b') ∧ rby_v b e = (v, e', b')) ∧ Byt (col b') ∧ b'.length ≤ b.length ∧ (e' = 0 → e = 0 ∧ (0 ≤ v ∧ v < 256) ∧ col b = bw 1 v ++ col b') := by
  obtain ⟨v, e', b', r1, r2, h1, h2, h3, h4⟩ := raw_t e hB (n := 1) (by omega)
  rw [show ((1 : Nat) : Int) = 1 from rfl] at r1 r2
  rw [show (256 : Int) ^ 1 = 256 from rfl] at h2
  have s1 : rby_res b e = some (IntKind.i64.wrap v, e', b') := by unfold rby_res; rw [r1, r2]; rfl
  refine ⟨_, e', b', ⟨s1, by unfold rby_v; rw [s1]; rfl⟩, h1, h3, fun h => ?_⟩
  obtain ⟨h5, h6⟩ := h4 h
  have w : IntKind.i64.wrap v = v := wrap_in (by omega) (by omega)
  rw [w]
  refine ⟨h5, ⟨by omega, by omega⟩, ?_⟩
  rw [h6]
  congr 1
  unfold bw
  rw [u64_in (by omega) (by omega)]
theorem by_f {b : List (List Ct)} {t : List Int} {v : Int} (hB : Byt (col b)) (hv : (0 ≤ v ∧ v < 256)) (hc : col b = bw 1 v ++ t) :
    ∃ b', (rby_res b 0 = some (v, 0, b') ∧ rby_v b 0 = (v, 0, b')) ∧ Byt (col b') ∧ col b' = t := by
  obtain ⟨b', g1, g2, g3⟩ := raw_laid (n := 1) (x := v) hB (by omega) (by rw [hc]; rfl)
  rw [show (((1 : Nat)) : Int) = 1 from rfl, show (((256 ^ 1 : Nat)) : Int) = 256 from rfl] at g1 g2
  have hr : rby_res b 0 = some (v, 0, b') := by
    unfold rby_res
    rw [g1, g2]
    rw [show v % 256 = v by omega, wrap_in (n := v) (by omega) (by omega)]; rfl
  exact ⟨b', ⟨hr, by unfold rby_v; rw [hr]; rfl⟩, by rw [g3]; rw [hc] at hB; exact hB.right, g3⟩
theorem ha_t {b : List (List Ct)} (e : Int) (hB : Byt (col b)) :
    ∃ v e' b', (rha_res b e = some (v, e', b') ∧ rha_v b e = (v, e', b')) ∧ Byt (col b') ∧ b'.length ≤ b.length ∧ (e' = 0 → e = 0 ∧ (0 ≤ v ∧ v < 65536) ∧ col b = bw 2 v ++ col b') := by
  obtain ⟨v, e', b', r1, r2, h1, h2, h3, h4⟩ := raw_t e hB (n := 2) (by omega)
  rw [show ((2 : Nat) : Int) = 2 from rfl] at r1 r2
  rw [show (256 : Int) ^ 2 = 65536 from rfl] at h2
  have s1 : rha_res b e = some (IntKind.i64.wrap v, e', b') := by unfold rha_res; rw [r1, r2]; rfl
  refine ⟨_, e', b', ⟨s1, by unfold rha_v; rw [s1]; rfl⟩, h1, h3, fun h => ?_⟩
  obtain ⟨h5, h6⟩ := h4 h
  have w : IntKind.i64.wrap v = v := wrap_in (by omega) (by omega)
  rw [w]
  refine ⟨h5, ⟨by omega, by omega⟩, ?_⟩
  rw [h6]
  congr 1
  unfold bw
  rw [u64_in (by omega) (by omega)]
theorem ha_f {b : List (List Ct)} {t : List Int} {v : Int} (hB : Byt (col b)) (hv : (0 ≤ v ∧ v < 65536)) (hc : col b = bw 2 v ++ t) :
    ∃ b', (rha_res b 0 = some (v, 0, b') ∧ rha_v b 0 = (v, 0, b')) ∧ Byt (col b') ∧ col b' = t := by
  obtain ⟨b', g1, g2, g3⟩ := raw_laid (n := 2) (x := v) hB (by omega) (by rw [hc]; rfl)
  rw [show (((2 : Nat)) : Int) = 2 from rfl, show (((256 ^ 2 : Nat)) : Int) = 65536 from rfl] at g1 g2
  have hr : rha_res b 0 = some (v, 0, b') := by
    unfold rha_res
    rw [g1, g2]
    rw [show v % 65536 = v by omega, wrap_in (n := v) (by omega) (by omega)]; rfl
  exact ⟨b', ⟨hr, by unfold rha_v; rw [hr]; rfl⟩, by rw [g3]; rw [hc] at hB; exact hB.right, g3⟩
theorem lo_t {b : List (List Ct)} (e : Int) (hB : Byt (col b)) :
    ∃ v e' b', (rlo_res b e = some (v, e', b') ∧ rlo_v b e = (v, e', b')) ∧ Byt (col b') ∧ b'.length ≤ b.length ∧ (e' = 0 → e = 0 ∧ (0 ≤ v ∧ v < 18446744073709551616) ∧ col b = byt 8 v ++ col b') := by
  obtain ⟨v, e', b', r1, r2, h1, h2, h3, h4⟩ := raw_t e hB (n := 8) (by omega)
  rw [show ((8 : Nat) : Int) = 8 from rfl] at r1 r2
  rw [show (256 : Int) ^ 8 = 18446744073709551616 from rfl] at h2
  have s1 : rlo_res b e = some (v, e', b') := by unfold rlo_res; rw [r1, r2]; rfl
  refine ⟨_, e', b', ⟨s1, by unfold rlo_v; rw [s1]; rfl⟩, h1, h3, fun h => ?_⟩
  obtain ⟨h5, h6⟩ := h4 h
  exact ⟨h5, h2, h6⟩
theorem lo_f {b : List (List Ct)} {t : List Int} {v : Int} (hB : Byt (col b)) (hv : (0 ≤ v ∧ v < 18446744073709551616)) (hc : col b = byt 8 v ++ t) :
    ∃ b', (rlo_res b 0 = some (v, 0, b') ∧ rlo_v b 0 = (v, 0, b')) ∧ Byt (col b') ∧ col b' = t := by
  obtain ⟨b', g1, g2, g3⟩ := raw_laid (n := 8) (x := v) hB (by omega) (by rw [hc, u64_in hv.1 hv.2])
  rw [show (((8 : Nat)) : Int) = 8 from rfl, show (((256 ^ 8 : Nat)) : Int) = 18446744073709551616 from rfl] at g1 g2
  have hr : rlo_res b 0 = some (v, 0, b') := by
    unfold rlo_res
    rw [g1, g2]
    rw [show v % 18446744073709551616 = v by omega]; rfl
  exact ⟨b', ⟨hr, by unfold rlo_v; rw [hr]; rfl⟩, by rw [g3]; rw [hc] at hB; exact hB.right, g3⟩
theorem sm_t {b : List (List Ct)} (e : Int) (hB : Byt (col b)) :
    ∃ v e' b', (rsl_res b e = some (v, e', b') ∧ rsl_v b e = (v, e', b')) ∧ Byt (col b') ∧ b'.length ≤ b.length ∧ (e' = 0 → e = 0 ∧ (-32768 ≤ v ∧ v ≤ 32767) ∧ col b = bw 2 v ++ col b') := by
  obtain ⟨v, e', b', r1, r2, h1, h2, h3, h4⟩ := raw_t e hB (n := 2) (by omega)
  rw [show ((2 : Nat) : Int) = 2 from rfl] at r1 r2
  rw [show (256 : Int) ^ 2 = 65536 from rfl] at h2
  have s1 : rsl_res b e = some (IntKind.i64.wrap (IntKind.i16.wrap v), e', b') := by unfold rsl_res; rw [r1, r2]; rfl
  refine ⟨_, e', b', ⟨s1, by unfold rsl_v; rw [s1]; rfl⟩, h1, h3, fun h => ?_⟩
  obtain ⟨h5, h6⟩ := h4 h
  have w16 : IntKind.i16.wrap v = if v ≥ 32768 then v - 65536 else v := by
    simp only [IntKind.wrap, IntKind.bits, IntKind.signed, Bool.true_and]
    split <;> rename_i h1 <;> simp at h1 <;> split <;> omega
  have w : IntKind.i64.wrap (IntKind.i16.wrap v) = IntKind.i16.wrap v := wrap_in (by rw [w16]; split <;> omega) (by rw [w16]; split <;> omega)
  rw [w, w16]
  refine ⟨h5, by split <;> omega, ?_⟩
  rw [h6]
  congr 1
  unfold bw
  refine byt_2 ?_
  rw [u64_mod]
  split <;> omega
theorem sm_f {b : List (List Ct)} {t : List Int} {v : Int} (hB : Byt (col b)) (hv : (-32768 ≤ v ∧ v ≤ 32767)) (hc : col b = bw 2 v ++ t) :
    ∃ b', (rsl_res b 0 = some (v, 0, b') ∧ rsl_v b 0 = (v, 0, b')) ∧ Byt (col b') ∧ col b' = t := by
  obtain ⟨b', g1, g2, g3⟩ := raw_laid (n := 2) (x := v) hB (by omega) (by rw [hc]; rfl)
  rw [show (((2 : Nat)) : Int) = 2 from rfl, show (((256 ^ 2 : Nat)) : Int) = 65536 from rfl] at g1 g2
  have hr : rsl_res b 0 = some (v, 0, b') := by
    unfold rsl_res
    rw [g1, g2]
    have w16 : IntKind.i16.wrap (v % 65536) = v := by
      simp only [IntKind.wrap, IntKind.bits, IntKind.signed, Bool.true_and]
      split <;> rename_i h1 <;> simp at h1 <;> omega
    rw [w16, wrap_in (n := v) (by omega) (by omega)]; rfl
  exact ⟨b', ⟨hr, by unfold rsl_v; rw [hr]; rfl⟩, by rw [g3]; rw [hc] at hB; exact hB.right, g3⟩
theorem fx_t {b : List (List Ct)} (e : Int) (hB : Byt (col b)) :
    ∃ v e' b', (rfx_res b e = some (v, e', b') ∧ rfx_v b e = (v, e', b')) ∧ Byt (col b') ∧ b'.length ≤ b.length ∧ (e' = 0 → e = 0 ∧ Fx v ∧ col b = bw 5 v ++ col b') := by
  obtain ⟨v, e', b', r1, r2, h1, h2, h3, h4⟩ := raw_t e hB (n := 5) (by omega)
  rw [show ((5 : Nat) : Int) = 5 from rfl] at r1 r2
  rw [show (256 : Int) ^ 5 = 1099511627776 from rfl] at h2
  have hV : ∀ x, rfx_res b e = some x → rfx_v b e = x := fun x h => by unfold rfx_v; rw [h]; rfl
  generalize hs : (if v ≥ 549755813888 then v - 1099511627776 else v) = s
  have hsx : (IntKind.i64.wrap (IntKind.u64.wrap (v * (2 : Int) ^ min (Int.toNat (24 : Int)) IntKind.u64.bits))).fdiv ((2 : Int) ^ min (Int.toNat (24 : Int)) IntKind.i64.bits) = s := by
    rw [show (2 : Int) ^ min (Int.toNat (24 : Int)) IntKind.u64.bits = 16777216 from rfl, show (2 : Int) ^ min (Int.toNat (24 : Int)) IntKind.i64.bits = 16777216 from rfl]
    rw [u64_in (by omega) (by omega), Int.fdiv_eq_ediv_of_nonneg _ (by omega), wrap_eq, ← hs]
    unfold RowKit.wrap64
    split <;> omega
  have big : ∀ x, rfx_res b e = some x → (x = (0, 33, []) ∧ e' = 0) ∨ (x = (0, e', b') ∧ e' ≠ 0) → ∃ v e' b', (rfx_res b e = some (v, e', b') ∧ rfx_v b e = (v, e', b')) ∧ Byt (col b') ∧ b'.length ≤ b.length ∧ (e' = 0 → e = 0 ∧ Fx v ∧ col b = bw 5 v ++ col b') := by
    intro x hx hor
    rcases hor with ⟨rfl, _⟩ | ⟨rfl, h0⟩
    · exact ⟨0, 33, [], ⟨hx, hV _ hx⟩, fun y hy => (by cases hy), (by simp), fun h => (by cases h)⟩
    · exact ⟨0, e', b', ⟨hx, hV _ hx⟩, h1, h3, fun h => absurd h h0⟩
  by_cases g1 : s > 2147483648
  · by_cases h0 : e' = 0
    · exact big (0, 33, []) (by unfold rfx_res; simp only [r1, r2, hsx, Option.isSome_some, cond_true, cond_dec g1, h0, beq_self_eq_true]) (.inl ⟨rfl, h0⟩)
    · exact big (0, e', b') (by unfold rfx_res; simp only [r1, r2, hsx, Option.isSome_some, cond_true, cond_dec g1, show (e' == 0) = false by simpa using h0, cond_false]) (.inr ⟨rfl, h0⟩)
  by_cases g2 : s < -2147483648
  · by_cases h0 : e' = 0
    · exact big (0, 33, []) (by unfold rfx_res; simp only [r1, r2, hsx, Option.isSome_some, cond_true, cond_not g1, cond_dec g2, h0, beq_self_eq_true]) (.inl ⟨rfl, h0⟩)
    · exact big (0, e', b') (by unfold rfx_res; simp only [r1, r2, hsx, Option.isSome_some, cond_true, cond_not g1, cond_dec g2, show (e' == 0) = false by simpa using h0, cond_false]) (.inr ⟨rfl, h0⟩)
  have hr : rfx_res b e = some (s, e', b') := by unfold rfx_res; simp only [r1, r2, hsx, Option.isSome_some, cond_true, cond_not g1, cond_not g2]
  refine ⟨s, e', b', ⟨hr, hV _ hr⟩, h1, h3, fun h => ?_⟩
  obtain ⟨h5, h6⟩ := h4 h
  refine ⟨h5, ⟨by omega, by omega⟩, ?_⟩
  rw [h6]
  congr 1
  unfold bw
  refine byt_5 ?_
  rw [u64_mod, ← hs]
  split <;> omega
theorem fx_f {b : List (List Ct)} {t : List Int} {v : Int} (hB : Byt (col b)) (hv : Fx v) (hc : col b = bw 5 v ++ t) :
    ∃ b', (rfx_res b 0 = some (v, 0, b') ∧ rfx_v b 0 = (v, 0, b')) ∧ Byt (col b') ∧ col b' = t := by
  obtain ⟨b', g1, g2, g3⟩ := rfx_laid hB hv.1 hv.2 hc
  exact ⟨b', ⟨g1, g2⟩, by rw [g3]; rw [hc] at hB; exact hB.right, g3⟩
theorem vc_t {b : List (List Ct)} (e : Int) (hB : Byt (col b)) :
    ∃ x y z e' b', (rvc_res b e = some (e', x, y, z, b') ∧ rvc_v b e = (e', x, y, z, b')) ∧ (rhu_res b e = some (e', x, y, z, b') ∧ rhu_v b e = (e', x, y, z, b')) ∧ Byt (col b') ∧ b'.length ≤ b.length ∧ (e' = 0 → e = 0 ∧ (Fx x ∧ Fx y ∧ Fx z) ∧ col b = b3 x y z ++ col b') := by
  obtain ⟨x, e1, b1, ⟨r1, s1⟩, B1, l1, i1⟩ := fx_t e hB
  obtain ⟨y, e2, b2, ⟨r2, s2⟩, B2, l2, i2⟩ := fx_t e1 B1
  obtain ⟨z, e3, b3', ⟨r3, s3⟩, B3, l3, i3⟩ := fx_t e2 B2
  by_cases h0 : e3 = 0
  · subst h0
    obtain ⟨h2, f3, c3⟩ := i3 rfl
    subst h2
    obtain ⟨h1, f2, c2⟩ := i2 rfl
    subst h1
    obtain ⟨h0', f1, c1⟩ := i1 rfl
    have hr : rvc_res b e = some (0, x, y, z, b3') := by unfold rvc_res; simp only [r1, s1, r2, s2, r3, s3]; rfl
    have hr' : rhu_res b e = some (0, x, y, z, b3') := by unfold rhu_res; simp only [r1, s1, r2, s2, r3, s3]; rfl
    exact ⟨x, y, z, 0, b3', ⟨hr, by unfold rvc_v; rw [hr]; rfl⟩, ⟨hr', by unfold rhu_v; rw [hr']; rfl⟩, B3, by omega, fun _ => ⟨h0', ⟨f1, f2, f3⟩, by rw [c1, c2, c3]; simp only [b3, List.append_assoc]⟩⟩
  · have hb : (e3 != 0) = true := by simpa using h0
    have hr : rvc_res b e = some (e3, 0, 0, 0, b3') := by unfold rvc_res; simp only [r1, s1, r2, s2, r3, s3, hb]; rfl
    have hr' : rhu_res b e = some (e3, 0, 0, 0, b3') := by unfold rhu_res; simp only [r1, s1, r2, s2, r3, s3, hb]; rfl
    exact ⟨0, 0, 0, e3, b3', ⟨hr, by unfold rvc_v; rw [hr]; rfl⟩, ⟨hr', by unfold rhu_v; rw [hr']; rfl⟩, B3, by omega, fun h => absurd h h0⟩
theorem vc_f {b : List (List Ct)} {t : List Int} {x y z : Int} (hB : Byt (col b)) (hv : Fx x ∧ Fx y ∧ Fx z) (hc : col b = b3 x y z ++ t) :
    ∃ b', (rvc_res b 0 = some (0, x, y, z, b') ∧ rvc_v b 0 = (0, x, y, z, b')) ∧ (rhu_res b 0 = some (0, x, y, z, b') ∧ rhu_v b 0 = (0, x, y, z, b')) ∧ Byt (col b') ∧ col b' = t := by
  obtain ⟨b', g1, g2, g3⟩ := rvc_laid hB hv.1 hv.2.1 hv.2.2 (t := t) (by rw [hc]; rfl)
  exact ⟨b', g1, g2, by rw [g3]; rw [hc] at hB; exact hB.right, g3⟩
theorem mn_t {b : List (List Ct)} (e : Int) (hB : Byt (col b)) (most c : Int) (hm : 0 ≤ most) (hc : c ≠ 0) :
    ∃ v e' b', (jmn_res b e most c = some (v, e', b') ∧ jmn_v b e most c = (v, e', b')) ∧ Byt (col b') ∧ b'.length ≤ b.length ∧ (0 ≤ v ∧ v < 256) ∧ (e' = 0 → e = 0 ∧ v ≤ most ∧ col b = bw 1 v ++ col b') := by
  obtain ⟨v, e', b', ⟨r1, r2⟩, h1, h3, h4⟩ := by_t e hB
  have hv : 0 ≤ v ∧ v < 256 := by
    obtain ⟨v', e'', b'', g1, g2, _, g4, _⟩ := raw_t e hB (n := 1) (by omega)
    rw [show ((1 : Nat) : Int) = 1 from rfl] at g1 g2
    rw [show (256 : Int) ^ 1 = 256 from rfl] at g4
    have : rby_res b e = some (IntKind.i64.wrap v', e'', b'') := by unfold rby_res; rw [g1, g2]; rfl
    rw [r1] at this
    have hw : IntKind.i64.wrap v' = v' := wrap_in (by omega) (by omega)
    rw [hw] at this
    cases this
    exact g4
  have fin : ∀ x, jmn_res b e most c = some x → jmn_v b e most c = x := fun x hx => by unfold jmn_v; rw [hx]; rfl
  have hcb : (c != 0) = true := by simpa using hc
  by_cases q : v > most
  · by_cases he : e' = 0
    · have h : jmn_res b e most c = some (0, c, []) := by simp only [jmn_res, r1, r2, cond_dec q, Option.isSome_some, cond_true, he, beq_self_eq_true, hcb]
      exact ⟨0, c, [], ⟨h, fin _ h⟩, fun y hy => (by cases hy), by simp, by omega, fun h => absurd h hc⟩
    · have h : jmn_res b e most c = some (0, e', b') := by simp only [jmn_res, r1, r2, cond_dec q, Option.isSome_some, cond_true, show (e' == 0) = false by simpa using he, cond_false]
      exact ⟨0, e', b', ⟨h, fin _ h⟩, h1, h3, by omega, fun h => absurd h he⟩
  · have h : jmn_res b e most c = some (v, e', b') := by simp only [jmn_res, r1, r2, cond_not q, Option.isSome_some, cond_true]
    exact ⟨v, e', b', ⟨h, fin _ h⟩, h1, h3, hv, fun h0 => ⟨(h4 h0).1, by omega, (h4 h0).2.2⟩⟩
theorem mn_f {b : List (List Ct)} {t : List Int} {v : Int} (hB : Byt (col b)) (most c : Int) (hv : 0 ≤ v ∧ v < 256) (hm : v ≤ most) (hc : col b = bw 1 v ++ t) :
    ∃ b', (jmn_res b 0 most c = some (v, 0, b') ∧ jmn_v b 0 most c = (v, 0, b')) ∧ Byt (col b') ∧ col b' = t := by
  obtain ⟨b', ⟨r1, r2⟩, h1, h2⟩ := by_f hB hv hc
  have q : ¬ v > most := by omega
  have h : jmn_res b 0 most c = some (v, 0, b') := by simp only [jmn_res, r1, r2, cond_not q, Option.isSome_some, cond_true]
  exact ⟨b', ⟨h, by unfold jmn_v; rw [h]; rfl⟩, h1, h2⟩
end Go.Proofs.Ytcpbiijegbbafaa
