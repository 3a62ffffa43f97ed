/- JobTot, JobTotB, JobTotC, JobTotD, laid together. No condition. -/
import Derived.Test.YtcpbiijegbbafaaEngJob2
import Derived.Test.YtcpbiijegbbafaaReaderB
import Derived.Test.YtcpbiijegbbafaaJobW
import Derived.Test.YtcpbiijegbbafaaEngJob7
import Derived.Test.YtcpbiijegbbafaaSceneLaw
import Derived.Test.YtcpbiijegbbafaaSceneChk
/- A reader's steps: what they answer, whatever the bytes are; what was laid is read. No condition. -/
set_option linter.unusedVariables false
set_option linter.unusedSimpArgs false
namespace Go.Proofs.Ytcpbiijegbbafaa
open Go.RowKit

theorem raw_laid {b : List (List Ct)} {t : List Int} {n : Nat} {x : Int} (hB : Byt (col b)) (hn : n ≤ 8) (hc : col b = byt n (IntKind.u64.wrap x) ++ t) : ∃ b', rrw_res b 0 (n : Int) = some (x % ((256 ^ n : Nat) : Int), 0, b') ∧ rrw_v b 0 (n : Int) = (x % ((256 ^ n : Nat) : Int), 0, b') ∧ col b' = t := by
  obtain ⟨h1, h2⟩ := raw_ok hc
  rw [byt_length] at h1 h2
  rw [num_bytx n x hn] at h1
  exact ⟨_, by rw [rrw_is hB hn, h1], by rw [rrw_v_is hB hn, h1], h2⟩
theorem Byt.right {s t : List Int} (h : Byt (s ++ t)) : Byt t := fun y hy => h y (List.mem_append_right _ hy)
theorem rfx_laid {b : List (List Ct)} {t : List Int} {x : Int} (hB : Byt (col b)) (h0 : -2147483648 ≤ x) (h1 : x ≤ 2147483648) (hc : col b = byt 5 (IntKind.u64.wrap x) ++ t) : ∃ b', rfx_res b 0 = some (x, 0, b') ∧ rfx_v b 0 = (x, 0, b') ∧ col b' = t := by
  obtain ⟨b', g1, g2, g3⟩ := raw_laid hB (by omega) hc
  rw [show (((5 : Nat)) : Int) = 5 from rfl, show (((256 ^ 5 : Nat)) : Int) = 1099511627776 from rfl] at g1 g2
  have hsx : (IntKind.i64.wrap (IntKind.u64.wrap ((x % 1099511627776) * (2 : Int) ^ min (Int.toNat (24 : Int)) IntKind.u64.bits))).fdiv ((2 : Int) ^ min (Int.toNat (24 : Int)) IntKind.i64.bits) = x := by
    rw [show (2 : Int) ^ min (Int.toNat (24 : Int)) IntKind.u64.bits = 16777216 from rfl, show (2 : Int) ^ min (Int.toNat (24 : Int)) IntKind.i64.bits = 16777216 from rfl]
    rw [u64_in (by omega) (by omega), Int.fdiv_eq_ediv_of_nonneg _ (by omega), wrap_eq]
    unfold RowKit.wrap64
    omega
  have hr : rfx_res b 0 = some (x, 0, b') := by
    unfold rfx_res
    rw [g1, g2, hsx, cond_not (by omega), cond_not (by omega)]
    rfl
  exact ⟨b', hr, by unfold rfx_v; rw [hr]; rfl, g3⟩
theorem rvc_laid {b : List (List Ct)} {t : List Int} {x y z : Int} (hB : Byt (col b)) (hx : -2147483648 ≤ x ∧ x ≤ 2147483648) (hy : -2147483648 ≤ y ∧ y ≤ 2147483648) (hz : -2147483648 ≤ z ∧ z ≤ 2147483648)
    (hc : col b = byt 5 (IntKind.u64.wrap x) ++ (byt 5 (IntKind.u64.wrap y) ++ byt 5 (IntKind.u64.wrap z)) ++ t) :
    ∃ b', (rvc_res b 0 = some (0, x, y, z, b') ∧ rvc_v b 0 = (0, x, y, z, b')) ∧ (rhu_res b 0 = some (0, x, y, z, b') ∧ rhu_v b 0 = (0, x, y, z, b')) ∧ col b' = t := by
  rw [List.append_assoc, List.append_assoc] at hc
  obtain ⟨b1, g1, g2, g3⟩ := rfx_laid hB hx.1 hx.2 hc
  have hB1 : Byt (col b1) := by rw [g3]; rw [hc] at hB; exact hB.right
  obtain ⟨b2, k1, k2, k3⟩ := rfx_laid hB1 hy.1 hy.2 g3
  have hB2 : Byt (col b2) := by rw [k3]; rw [g3] at hB1; exact hB1.right
  obtain ⟨b3, m1, m2, m3⟩ := rfx_laid hB2 hz.1 hz.2 k3
  have hr : rvc_res b 0 = some (0, x, y, z, b3) := by unfold rvc_res; simp only [g1, g2, k1, k2, m1, m2]; rfl
  have hr' : rhu_res b 0 = some (0, x, y, z, b3) := by unfold rhu_res; simp only [g1, g2, k1, k2, m1, m2]; rfl
  exact ⟨b3, ⟨hr, by unfold rvc_v; rw [hr]; rfl⟩, ⟨hr', by unfold rhu_v; rw [hr']; rfl⟩, m3⟩
/-- What may stand in a point. -/
def Fx (x : Int) : Prop := -2147483648 ≤ x ∧ x ≤ 2147483648
theorem byt_num : ∀ {s : List Int}, Byt s → byt s.length (num s) = s := by
  intro s
  induction s with
  | nil => intro _; rfl
  | cons y s ih =>
    intro h
    have h1 := h y List.mem_cons_self
    have h2 := ih (fun z hz => h z (List.mem_cons_of_mem _ hz))
    have e1 : IntKind.u8.wrap (y + 256 * num s) = y := by rw [u8_mod]; omega
    have e2 : (y + 256 * num s) / 256 = num s := by omega
    simp only [List.length_cons, byt, num, e1, e2, h2]
theorem byt_1 {x y : Int} (h : x % 256 = y % 256) : byt 1 x = byt 1 y := by simp only [byt, u8_mod, h]
theorem byt_2 {x y : Int} (h : x % 65536 = y % 65536) : byt 2 x = byt 2 y := by
  simp only [byt, u8_mod]
  rw [show x % 256 = y % 256 by omega, show x / 256 % 256 = y / 256 % 256 by omega]
theorem byt_5 {x y : Int} (h : x % 1099511627776 = y % 1099511627776) : byt 5 x = byt 5 y := by
  simp only [byt, u8_mod]
  rw [show x % 256 = y % 256 by omega, show x / 256 % 256 = y / 256 % 256 by omega, show x / 256 / 256 % 256 = y / 256 / 256 % 256 by omega, show x / 256 / 256 / 256 % 256 = y / 256 / 256 / 256 % 256 by omega, show x / 256 / 256 / 256 / 256 % 256 = y / 256 / 256 / 256 / 256 % 256 by omega]
/-- What a read answers; if nothing is wrong behind it, nothing was ahead, and the bytes are what is said. -/
theorem raw_t {b : List (List Ct)} (e : Int) (hB : Byt (col b)) {n : Nat} (hn : n ≤ 8) :
    ∃ v e' b', rrw_res b e (n : Int) = some (v, e', b') ∧ rrw_v b e (n : Int) = (v, e', b') ∧ Byt (col b') ∧ (0 ≤ v ∧ v < (256 : Int) ^ n) ∧ b'.length ≤ b.length ∧ (e' = 0 → e = 0 ∧ col b = byt n v ++ col b') := by
  have hp : (0 : Int) < (256 : Int) ^ n := by
    have : 0 < (256 : Nat) ^ n := Nat.pow_pos (by omega)
    have h2 : ((0 : Nat) : Int) < (((256 : Nat) ^ n : Nat) : Int) := by omega
    rw [Int.natCast_pow] at h2
    exact h2
  have h1 := rrw_is (e := e) hB hn
  have h2 := rrw_v_is (e := e) hB hn
  unfold rawV at h1 h2
  by_cases he : e ≠ 0
  · rw [if_pos he] at h1 h2
    exact ⟨0, e, b, h1, h2, hB, ⟨by omega, hp⟩, Nat.le_refl _, fun h => absurd h he⟩
  · rw [if_neg he] at h1 h2
    by_cases hl : b.length < n
    · rw [if_pos hl] at h1 h2
      exact ⟨0, 9, [], h1, h2, fun y hy => (by cases hy), ⟨by omega, hp⟩, (by simp), fun h => (by cases h)⟩
    · rw [if_neg hl] at h1 h2
      have hr := num_range (hB.take n)
      have hlen : ((col b).take n).length = n := by rw [List.length_take, col_length]; omega
      rw [hlen] at hr
      have hb := byt_num (hB.take n)
      rw [hlen] at hb
      refine ⟨_, _, _, h1, h2, by rw [part_rest]; exact hB.drop n, hr, ?_, fun _ => ⟨by omega, by rw [part_rest, hb, List.take_append_drop]⟩⟩
      have := part_length (l := b) (a := n) (b := b.length) (Nat.le_refl _)
      omega
theorem by_t {b : List (List Ct)} (e : Int) (hB : Byt (col b)) :
    ∃ v e' b', (rby_res b e = some (v, e', b') ∧ rby_v b e = (v, e', b')) ∧ Byt (col b') ∧ b'.length ≤ b.length ∧ (e' = 0 → e = 0 ∧ (0 ≤ v ∧ v < 256) ∧ col b = bw 1 v ++ col b') := by
  obtain ⟨v, e', b', r1, r2, h1, h2, h3, h4⟩ := raw_t e hB (n := 1) (by omega)
  rw [show ((1 : Nat) : Int) = 1 from rfl] at r1 r2
  rw [show (256 : Int) ^ 1 = 256 from rfl] at h2
  have s1 : rby_res b e = some (IntKind.i64.wrap v, e', b') := by unfold rby_res; rw [r1, r2]; rfl
  refine ⟨_, e', b', ⟨s1, by unfold rby_v; rw [s1]; rfl⟩, h1, h3, fun h => ?_⟩
  obtain ⟨h5, h6⟩ := h4 h
  have w : IntKind.i64.wrap v = v := wrap_in (by omega) (by omega)
  rw [w]
  refine ⟨h5, ⟨by omega, by omega⟩, ?_⟩
  rw [h6]
  congr 1
  unfold bw
  rw [u64_in (by omega) (by omega)]
theorem by_f {b : List (List Ct)} {t : List Int} {v : Int} (hB : Byt (col b)) (hv : (0 ≤ v ∧ v < 256)) (hc : col b = bw 1 v ++ t) :
    ∃ b', (rby_res b 0 = some (v, 0, b') ∧ rby_v b 0 = (v, 0, b')) ∧ Byt (col b') ∧ col b' = t := by
  obtain ⟨b', g1, g2, g3⟩ := raw_laid (n := 1) (x := v) hB (by omega) (by rw [hc]; rfl)
  rw [show (((1 : Nat)) : Int) = 1 from rfl, show (((256 ^ 1 : Nat)) : Int) = 256 from rfl] at g1 g2
  have hr : rby_res b 0 = some (v, 0, b') := by
    unfold rby_res
    rw [g1, g2]
    rw [show v % 256 = v by omega, wrap_in (n := v) (by omega) (by omega)]; rfl
  exact ⟨b', ⟨hr, by unfold rby_v; rw [hr]; rfl⟩, by rw [g3]; rw [hc] at hB; exact hB.right, g3⟩
theorem ha_t {b : List (List Ct)} (e : Int) (hB : Byt (col b)) :
    ∃ v e' b', (rha_res b e = some (v, e', b') ∧ rha_v b e = (v, e', b')) ∧ Byt (col b') ∧ b'.length ≤ b.length ∧ (e' = 0 → e = 0 ∧ (0 ≤ v ∧ v < 65536) ∧ col b = bw 2 v ++ col b') := by
  obtain ⟨v, e', b', r1, r2, h1, h2, h3, h4⟩ := raw_t e hB (n := 2) (by omega)
  rw [show ((2 : Nat) : Int) = 2 from rfl] at r1 r2
  rw [show (256 : Int) ^ 2 = 65536 from rfl] at h2
  have s1 : rha_res b e = some (IntKind.i64.wrap v, e', b') := by unfold rha_res; rw [r1, r2]; rfl
  refine ⟨_, e', b', ⟨s1, by unfold rha_v; rw [s1]; rfl⟩, h1, h3, fun h => ?_⟩
  obtain ⟨h5, h6⟩ := h4 h
  have w : IntKind.i64.wrap v = v := wrap_in (by omega) (by omega)
  rw [w]
  refine ⟨h5, ⟨by omega, by omega⟩, ?_⟩
  rw [h6]
  congr 1
  unfold bw
  rw [u64_in (by omega) (by omega)]
theorem ha_f {b : List (List Ct)} {t : List Int} {v : Int} (hB : Byt (col b)) (hv : (0 ≤ v ∧ v < 65536)) (hc : col b = bw 2 v ++ t) :
    ∃ b', (rha_res b 0 = some (v, 0, b') ∧ rha_v b 0 = (v, 0, b')) ∧ Byt (col b') ∧ col b' = t := by
  obtain ⟨b', g1, g2, g3⟩ := raw_laid (n := 2) (x := v) hB (by omega) (by rw [hc]; rfl)
  rw [show (((2 : Nat)) : Int) = 2 from rfl, show (((256 ^ 2 : Nat)) : Int) = 65536 from rfl] at g1 g2
  have hr : rha_res b 0 = some (v, 0, b') := by
    unfold rha_res
    rw [g1, g2]
    rw [show v % 65536 = v by omega, wrap_in (n := v) (by omega) (by omega)]; rfl
  exact ⟨b', ⟨hr, by unfold rha_v; rw [hr]; rfl⟩, by rw [g3]; rw [hc] at hB; exact hB.right, g3⟩
theorem lo_t {b : List (List Ct)} (e : Int) (hB : Byt (col b)) :
    ∃ v e' b', (rlo_res b e = some (v, e', b') ∧ rlo_v b e = (v, e', b')) ∧ Byt (col b') ∧ b'.length ≤ b.length ∧ (e' = 0 → e = 0 ∧ (0 ≤ v ∧ v < 18446744073709551616) ∧ col b = byt 8 v ++ col b') := by
  obtain ⟨v, e', b', r1, r2, h1, h2, h3, h4⟩ := raw_t e hB (n := 8) (by omega)
  rw [show ((8 : Nat) : Int) = 8 from rfl] at r1 r2
  rw [show (256 : Int) ^ 8 = 18446744073709551616 from rfl] at h2
  have s1 : rlo_res b e = some (v, e', b') := by unfold rlo_res; rw [r1, r2]; rfl
  refine ⟨_, e', b', ⟨s1, by unfold rlo_v; rw [s1]; rfl⟩, h1, h3, fun h => ?_⟩
  obtain ⟨h5, h6⟩ := h4 h
  exact ⟨h5, h2, h6⟩
theorem lo_f {b : List (List Ct)} {t : List Int} {v : Int} (hB : Byt (col b)) (hv : (0 ≤ v ∧ v < 18446744073709551616)) (hc : col b = byt 8 v ++ t) :
    ∃ b', (rlo_res b 0 = some (v, 0, b') ∧ rlo_v b 0 = (v, 0, b')) ∧ Byt (col b') ∧ col b' = t := by
  obtain ⟨b', g1, g2, g3⟩ := raw_laid (n := 8) (x := v) hB (by omega) (by rw [hc, u64_in hv.1 hv.2])
  rw [show (((8 : Nat)) : Int) = 8 from rfl, show (((256 ^ 8 : Nat)) : Int) = 18446744073709551616 from rfl] at g1 g2
  have hr : rlo_res b 0 = some (v, 0, b') := by
    unfold rlo_res
    rw [g1, g2]
    rw [show v % 18446744073709551616 = v by omega]; rfl
  exact ⟨b', ⟨hr, by unfold rlo_v; rw [hr]; rfl⟩, by rw [g3]; rw [hc] at hB; exact hB.right, g3⟩
theorem sm_t {b : List (List Ct)} (e : Int) (hB : Byt (col b)) :
    ∃ v e' b', (rsl_res b e = some (v, e', b') ∧ rsl_v b e = (v, e', b')) ∧ Byt (col b') ∧ b'.length ≤ b.length ∧ (e' = 0 → e = 0 ∧ (-32768 ≤ v ∧ v ≤ 32767) ∧ col b = bw 2 v ++ col b') := by
  obtain ⟨v, e', b', r1, r2, h1, h2, h3, h4⟩ := raw_t e hB (n := 2) (by omega)
  rw [show ((2 : Nat) : Int) = 2 from rfl] at r1 r2
  rw [show (256 : Int) ^ 2 = 65536 from rfl] at h2
  have s1 : rsl_res b e = some (IntKind.i64.wrap (IntKind.i16.wrap v), e', b') := by unfold rsl_res; rw [r1, r2]; rfl
  refine ⟨_, e', b', ⟨s1, by unfold rsl_v; rw [s1]; rfl⟩, h1, h3, fun h => ?_⟩
  obtain ⟨h5, h6⟩ := h4 h
  have w16 : IntKind.i16.wrap v = if v ≥ 32768 then v - 65536 else v := by
    simp only [IntKind.wrap, IntKind.bits, IntKind.signed, Bool.true_and]
    split <;> rename_i h1 <;> simp at h1 <;> split <;> omega
  have w : IntKind.i64.wrap (IntKind.i16.wrap v) = IntKind.i16.wrap v := wrap_in (by rw [w16]; split <;> omega) (by rw [w16]; split <;> omega)
  rw [w, w16]
  refine ⟨h5, by split <;> omega, ?_⟩
  rw [h6]
  congr 1
  unfold bw
  refine byt_2 ?_
  rw [u64_mod]
  split <;> omega
theorem sm_f {b : List (List Ct)} {t : List Int} {v : Int} (hB : Byt (col b)) (hv : (-32768 ≤ v ∧ v ≤ 32767)) (hc : col b = bw 2 v ++ t) :
    ∃ b', (rsl_res b 0 = some (v, 0, b') ∧ rsl_v b 0 = (v, 0, b')) ∧ Byt (col b') ∧ col b' = t := by
  obtain ⟨b', g1, g2, g3⟩ := raw_laid (n := 2) (x := v) hB (by omega) (by rw [hc]; rfl)
  rw [show (((2 : Nat)) : Int) = 2 from rfl, show (((256 ^ 2 : Nat)) : Int) = 65536 from rfl] at g1 g2
  have hr : rsl_res b 0 = some (v, 0, b') := by
    unfold rsl_res
    rw [g1, g2]
    have w16 : IntKind.i16.wrap (v % 65536) = v := by
      simp only [IntKind.wrap, IntKind.bits, IntKind.signed, Bool.true_and]
      split <;> rename_i h1 <;> simp at h1 <;> omega
    rw [w16, wrap_in (n := v) (by omega) (by omega)]; rfl
  exact ⟨b', ⟨hr, by unfold rsl_v; rw [hr]; rfl⟩, by rw [g3]; rw [hc] at hB; exact hB.right, g3⟩
theorem fx_t {b : List (List Ct)} (e : Int) (hB : Byt (col b)) :
    ∃ v e' b', (rfx_res b e = some (v, e', b') ∧ rfx_v b e = (v, e', b')) ∧ Byt (col b') ∧ b'.length ≤ b.length ∧ (e' = 0 → e = 0 ∧ Fx v ∧ col b = bw 5 v ++ col b') := by
  obtain ⟨v, e', b', r1, r2, h1, h2, h3, h4⟩ := raw_t e hB (n := 5) (by omega)
  rw [show ((5 : Nat) : Int) = 5 from rfl] at r1 r2
  rw [show (256 : Int) ^ 5 = 1099511627776 from rfl] at h2
  have hV : ∀ x, rfx_res b e = some x → rfx_v b e = x := fun x h => by unfold rfx_v; rw [h]; rfl
  generalize hs : (if v ≥ 549755813888 then v - 1099511627776 else v) = s
  have hsx : (IntKind.i64.wrap (IntKind.u64.wrap (v * (2 : Int) ^ min (Int.toNat (24 : Int)) IntKind.u64.bits))).fdiv ((2 : Int) ^ min (Int.toNat (24 : Int)) IntKind.i64.bits) = s := by
    rw [show (2 : Int) ^ min (Int.toNat (24 : Int)) IntKind.u64.bits = 16777216 from rfl, show (2 : Int) ^ min (Int.toNat (24 : Int)) IntKind.i64.bits = 16777216 from rfl]
    rw [u64_in (by omega) (by omega), Int.fdiv_eq_ediv_of_nonneg _ (by omega), wrap_eq, ← hs]
    unfold RowKit.wrap64
    split <;> omega
  have big : ∀ x, rfx_res b e = some x → (x = (0, 33, []) ∧ e' = 0) ∨ (x = (0, e', b') ∧ e' ≠ 0) → ∃ v e' b', (rfx_res b e = some (v, e', b') ∧ rfx_v b e = (v, e', b')) ∧ Byt (col b') ∧ b'.length ≤ b.length ∧ (e' = 0 → e = 0 ∧ Fx v ∧ col b = bw 5 v ++ col b') := by
    intro x hx hor
    rcases hor with ⟨rfl, _⟩ | ⟨rfl, h0⟩
    · exact ⟨0, 33, [], ⟨hx, hV _ hx⟩, fun y hy => (by cases hy), (by simp), fun h => (by cases h)⟩
    · exact ⟨0, e', b', ⟨hx, hV _ hx⟩, h1, h3, fun h => absurd h h0⟩
  by_cases g1 : s > 2147483648
  · by_cases h0 : e' = 0
    · exact big (0, 33, []) (by unfold rfx_res; simp only [r1, r2, hsx, Option.isSome_some, cond_true, cond_dec g1, h0, beq_self_eq_true]) (.inl ⟨rfl, h0⟩)
    · exact big (0, e', b') (by unfold rfx_res; simp only [r1, r2, hsx, Option.isSome_some, cond_true, cond_dec g1, show (e' == 0) = false by simpa using h0, cond_false]) (.inr ⟨rfl, h0⟩)
  by_cases g2 : s < -2147483648
  · by_cases h0 : e' = 0
    · exact big (0, 33, []) (by unfold rfx_res; simp only [r1, r2, hsx, Option.isSome_some, cond_true, cond_not g1, cond_dec g2, h0, beq_self_eq_true]) (.inl ⟨rfl, h0⟩)
    · exact big (0, e', b') (by unfold rfx_res; simp only [r1, r2, hsx, Option.isSome_some, cond_true, cond_not g1, cond_dec g2, show (e' == 0) = false by simpa using h0, cond_false]) (.inr ⟨rfl, h0⟩)
  have hr : rfx_res b e = some (s, e', b') := by unfold rfx_res; simp only [r1, r2, hsx, Option.isSome_some, cond_true, cond_not g1, cond_not g2]
  refine ⟨s, e', b', ⟨hr, hV _ hr⟩, h1, h3, fun h => ?_⟩
  obtain ⟨h5, h6⟩ := h4 h
  refine ⟨h5, ⟨by omega, by omega⟩, ?_⟩
  rw [h6]
  congr 1
  unfold bw
  refine byt_5 ?_
  rw [u64_mod, ← hs]
  split <;> omega
theorem fx_f {b : List (List Ct)} {t : List Int} {v : Int} (hB : Byt (col b)) (hv : Fx v) (hc : col b = bw 5 v ++ t) :
    ∃ b', (rfx_res b 0 = some (v, 0, b') ∧ rfx_v b 0 = (v, 0, b')) ∧ Byt (col b') ∧ col b' = t := by
  obtain ⟨b', g1, g2, g3⟩ := rfx_laid hB hv.1 hv.2 hc
  exact ⟨b', ⟨g1, g2⟩, by rw [g3]; rw [hc] at hB; exact hB.right, g3⟩
theorem vc_t {b : List (List Ct)} (e : Int) (hB : Byt (col b)) :
    ∃ x y z e' b', (rvc_res b e = some (e', x, y, z, b') ∧ rvc_v b e = (e', x, y, z, b')) ∧ (rhu_res b e = some (e', x, y, z, b') ∧ rhu_v b e = (e', x, y, z, b')) ∧ Byt (col b') ∧ b'.length ≤ b.length ∧ (e' = 0 → e = 0 ∧ (Fx x ∧ Fx y ∧ Fx z) ∧ col b = b3 x y z ++ col b') := by
  obtain ⟨x, e1, b1, ⟨r1, s1⟩, B1, l1, i1⟩ := fx_t e hB
  obtain ⟨y, e2, b2, ⟨r2, s2⟩, B2, l2, i2⟩ := fx_t e1 B1
  obtain ⟨z, e3, b3', ⟨r3, s3⟩, B3, l3, i3⟩ := fx_t e2 B2
  by_cases h0 : e3 = 0
  · subst h0
    obtain ⟨h2, f3, c3⟩ := i3 rfl
    subst h2
    obtain ⟨h1, f2, c2⟩ := i2 rfl
    subst h1
    obtain ⟨h0', f1, c1⟩ := i1 rfl
    have hr : rvc_res b e = some (0, x, y, z, b3') := by unfold rvc_res; simp only [r1, s1, r2, s2, r3, s3]; rfl
    have hr' : rhu_res b e = some (0, x, y, z, b3') := by unfold rhu_res; simp only [r1, s1, r2, s2, r3, s3]; rfl
    exact ⟨x, y, z, 0, b3', ⟨hr, by unfold rvc_v; rw [hr]; rfl⟩, ⟨hr', by unfold rhu_v; rw [hr']; rfl⟩, B3, by omega, fun _ => ⟨h0', ⟨f1, f2, f3⟩, by rw [c1, c2, c3]; simp only [b3, List.append_assoc]⟩⟩
  · have hb : (e3 != 0) = true := by simpa using h0
    have hr : rvc_res b e = some (e3, 0, 0, 0, b3') := by unfold rvc_res; simp only [r1, s1, r2, s2, r3, s3, hb]; rfl
    have hr' : rhu_res b e = some (e3, 0, 0, 0, b3') := by unfold rhu_res; simp only [r1, s1, r2, s2, r3, s3, hb]; rfl
    exact ⟨0, 0, 0, e3, b3', ⟨hr, by unfold rvc_v; rw [hr]; rfl⟩, ⟨hr', by unfold rhu_v; rw [hr']; rfl⟩, B3, by omega, fun h => absurd h h0⟩
theorem vc_f {b : List (List Ct)} {t : List Int} {x y z : Int} (hB : Byt (col b)) (hv : Fx x ∧ Fx y ∧ Fx z) (hc : col b = b3 x y z ++ t) :
    ∃ b', (rvc_res b 0 = some (0, x, y, z, b') ∧ rvc_v b 0 = (0, x, y, z, b')) ∧ (rhu_res b 0 = some (0, x, y, z, b') ∧ rhu_v b 0 = (0, x, y, z, b')) ∧ Byt (col b') ∧ col b' = t := by
  obtain ⟨b', g1, g2, g3⟩ := rvc_laid hB hv.1 hv.2.1 hv.2.2 (t := t) (by rw [hc]; rfl)
  exact ⟨b', g1, g2, by rw [g3]; rw [hc] at hB; exact hB.right, g3⟩
theorem mn_t {b : List (List Ct)} (e : Int) (hB : Byt (col b)) (most c : Int) (hm : 0 ≤ most) (hc : c ≠ 0) :
    ∃ v e' b', (jmn_res b e most c = some (v, e', b') ∧ jmn_v b e most c = (v, e', b')) ∧ Byt (col b') ∧ b'.length ≤ b.length ∧ (0 ≤ v ∧ v < 256) ∧ (e' = 0 → e = 0 ∧ v ≤ most ∧ col b = bw 1 v ++ col b') := by
  obtain ⟨v, e', b', ⟨r1, r2⟩, h1, h3, h4⟩ := by_t e hB
  have hv : 0 ≤ v ∧ v < 256 := by
    obtain ⟨v', e'', b'', g1, g2, _, g4, _⟩ := raw_t e hB (n := 1) (by omega)
    rw [show ((1 : Nat) : Int) = 1 from rfl] at g1 g2
    rw [show (256 : Int) ^ 1 = 256 from rfl] at g4
    have : rby_res b e = some (IntKind.i64.wrap v', e'', b'') := by unfold rby_res; rw [g1, g2]; rfl
    rw [r1] at this
    have hw : IntKind.i64.wrap v' = v' := wrap_in (by omega) (by omega)
    rw [hw] at this
    cases this
    exact g4
  have fin : ∀ x, jmn_res b e most c = some x → jmn_v b e most c = x := fun x hx => by unfold jmn_v; rw [hx]; rfl
  have hcb : (c != 0) = true := by simpa using hc
  by_cases q : v > most
  · by_cases he : e' = 0
    · have h : jmn_res b e most c = some (0, c, []) := by simp only [jmn_res, r1, r2, cond_dec q, Option.isSome_some, cond_true, he, beq_self_eq_true, hcb]
      exact ⟨0, c, [], ⟨h, fin _ h⟩, fun y hy => (by cases hy), by simp, by omega, fun h => absurd h hc⟩
    · have h : jmn_res b e most c = some (0, e', b') := by simp only [jmn_res, r1, r2, cond_dec q, Option.isSome_some, cond_true, show (e' == 0) = false by simpa using he, cond_false]
      exact ⟨0, e', b', ⟨h, fin _ h⟩, h1, h3, by omega, fun h => absurd h he⟩
  · have h : jmn_res b e most c = some (v, e', b') := by simp only [jmn_res, r1, r2, cond_not q, Option.isSome_some, cond_true]
    exact ⟨v, e', b', ⟨h, fin _ h⟩, h1, h3, hv, fun h0 => ⟨(h4 h0).1, by omega, (h4 h0).2.2⟩⟩
theorem mn_f {b : List (List Ct)} {t : List Int} {v : Int} (hB : Byt (col b)) (most c : Int) (hv : 0 ≤ v ∧ v < 256) (hm : v ≤ most) (hc : col b = bw 1 v ++ t) :
    ∃ b', (jmn_res b 0 most c = some (v, 0, b') ∧ jmn_v b 0 most c = (v, 0, b')) ∧ Byt (col b') ∧ col b' = t := by
  obtain ⟨b', ⟨r1, r2⟩, h1, h2⟩ := by_f hB hv hc
  have q : ¬ v > most := by omega
  have h : jmn_res b 0 most c = some (v, 0, b') := by simp only [jmn_res, r1, r2, cond_not q, Option.isSome_some, cond_true]
  exact ⟨b', ⟨h, by unfold jmn_v; rw [h]; rfl⟩, h1, h2⟩
end Go.Proofs.Ytcpbiijegbbafaa

/- A reader's parts: what they answer, whatever the bytes are; what was laid is read. No condition. -/
set_option linter.unusedVariables false
set_option linter.unusedSimpArgs false
namespace Go.Proofs.Ytcpbiijegbbafaa
open Go.RowKit

theorem mg_t {b : List (List Ct)} (e : Int) (hB : Byt (col b)) :
    ∃ e' b', (jmg_res b e = some (e', b') ∧ jmg_v b e = (e', b')) ∧ Byt (col b') ∧ b'.length ≤ b.length ∧ (e' = 0 → e = 0 ∧ col b = bM ++ col b') := by
  have L4 : ((([[Ct.i (90 : Int)], [Ct.i (79 : Int)], [Ct.i (69 : Int)], [Ct.i (49 : Int)]] : List (List Ct)).length : Nat) : Int) = 4 := rfl
  have hx : ∀ k : Nat, k < 4 → ∃ c : Int, (rd [[Ct.i (90 : Int)], [Ct.i (79 : Int)], [Ct.i (69 : Int)], [Ct.i (49 : Int)]] k 0).int = c ∧ IntKind.i64.wrap c = c ∧ bM.drop k = bw 1 c ++ bM.drop (k + 1) := by
    intro k hk
    have c : k = 0 ∨ k = 1 ∨ k = 2 ∨ k = 3 := by omega
    rcases c with rfl | rfl | rfl | rfl
    · exact ⟨90, rfl, rfl, rfl⟩
    · exact ⟨79, rfl, rfl, rfl⟩
    · exact ⟨69, rfl, rfl, rfl⟩
    · exact ⟨49, rfl, rfl, rfl⟩
  have main : ∀ (d : Nat) (e : Int) (b : List (List Ct)) (fuel : Nat), d ≤ 4 → d < fuel → Byt (col b) → ∃ e' b', iter jmg_L0_step fuel (((4 - d : Nat) : Int), e, b) = some (4, e', b') ∧ Byt (col b') ∧ b'.length ≤ b.length ∧ (e' = 0 → e = 0 ∧ col b = bM.drop (4 - d) ++ col b') := by
    intro d
    induction d with
    | zero =>
      intro e b fuel hd hf hB
      obtain ⟨fuel, rfl⟩ : ∃ j, fuel = j + 1 := ⟨fuel - 1, by omega⟩
      refine ⟨e, b, iter_inr ?_, hB, Nat.le_refl _, fun h => ⟨h, rfl⟩⟩
      simp only [jmg_L0_step, L4, Nat.sub_zero]
      rw [cond_not (by omega)]; rfl
    | succ d ih =>
      intro e b fuel hd hf hB
      obtain ⟨fuel, rfl⟩ : ∃ j, fuel = j + 1 := ⟨fuel - 1, by omega⟩
      have q1 : ((4 - (d + 1) : Nat) : Int) < 4 := by omega
      have q2 : (0 : Int) ≤ ((4 - (d + 1) : Nat) : Int) ∧ ((4 - (d + 1) : Nat) : Int) < 4 := by omega
      have w1 : IntKind.i64.wrap (((4 - (d + 1) : Nat) : Int) + 1) = ((4 - d : Nat) : Int) := by rw [wrap_in (by omega) (by omega)]; omega
      obtain ⟨v, e0, b0, ⟨r1, r2⟩, B0, l0, i0⟩ := by_t e hB
      obtain ⟨c, hc, hw, hdr⟩ := hx (4 - (d + 1)) (by omega)
      rw [show 4 - (d + 1) + 1 = 4 - d by omega] at hdr
      by_cases he : e0 = 0
      · subst he
        by_cases hv : v = c
        · subst hv
          have hst : jmg_L0_step (((4 - (d + 1) : Nat) : Int), e, b) = some (.inl (((4 - d : Nat) : Int), 0, b0)) := by
            simp only [jmg_L0_step, L4, cond_dec q1, cond_dec q2, r1, r2, Option.isSome_some, cond_true, Int.toNat_natCast, hc, hw, w1, bne_self_eq_false, cond_false, beq_self_eq_true]
          obtain ⟨e', b', g1, g2, g3, g4⟩ := ih 0 b0 fuel (by omega) (by omega) B0
          refine ⟨e', b', by rw [iter_inl hst]; exact g1, g2, by omega, fun h => ?_⟩
          obtain ⟨_, k2⟩ := g4 h
          obtain ⟨h5, h6, h7⟩ := i0 rfl
          exact ⟨h5, by rw [h7, k2, hdr, List.append_assoc]⟩
        · have hn : (v != c) = true := by simpa using hv
          have hst : jmg_L0_step (((4 - (d + 1) : Nat) : Int), e, b) = some (.inl (((4 - d : Nat) : Int), 20, [])) := by
            simp only [jmg_L0_step, L4, cond_dec q1, cond_dec q2, r1, r2, Option.isSome_some, cond_true, Int.toNat_natCast, hc, hw, w1, hn, beq_self_eq_true]
          obtain ⟨e', b', g1, g2, g3, g4⟩ := ih 20 [] fuel (by omega) (by omega) (fun y hy => (by cases hy))
          exact ⟨e', b', by rw [iter_inl hst]; exact g1, g2, (by simp only [List.length_nil] at g3; omega), fun h => absurd (g4 h).1 (by omega)⟩
      · have hb1 : (e0 == 0) = false := by simpa using he
        have hst : jmg_L0_step (((4 - (d + 1) : Nat) : Int), e, b) = some (.inl (((4 - d : Nat) : Int), e0, b0)) := by
          simp only [jmg_L0_step, L4, cond_dec q1, cond_dec q2, r1, r2, Option.isSome_some, cond_true, w1, hb1, cond_false]
        obtain ⟨e', b', g1, g2, g3, g4⟩ := ih e0 b0 fuel (by omega) (by omega) B0
        exact ⟨e', b', by rw [iter_inl hst]; exact g1, g2, by omega, fun h => absurd (g4 h).1 he⟩
  obtain ⟨e', b', g1, g2, g3, g4⟩ := main 4 e b 5 (by omega) (by omega) hB
  have q : jmg_L0_p b e = true := by unfold jmg_L0_p; exact congrArg Option.isSome g1
  have q2 : jmg_L0_v b e = (4, e', b') := by unfold jmg_L0_v loopRes; exact congrArg (fun o : Option (Int × Int × List (List Ct)) => o.getD default) g1
  have h1 : jmg_res b e = some (e', b') := by
    unfold jmg_res
    rw [q, q2]; rfl
  exact ⟨e', b', ⟨h1, by unfold jmg_v; rw [h1]; rfl⟩, g2, g3, g4⟩
theorem mg_f {b : List (List Ct)} {t : List Int} (hB : Byt (col b)) (hc : col b = bM ++ t) : ∃ b', (jmg_res b 0 = some (0, b') ∧ jmg_v b 0 = (0, b')) ∧ Byt (col b') ∧ col b' = t := by
  have L4 : ((([[Ct.i (90 : Int)], [Ct.i (79 : Int)], [Ct.i (69 : Int)], [Ct.i (49 : Int)]] : List (List Ct)).length : Nat) : Int) = 4 := rfl
  have hx : ∀ k : Nat, k < 4 → ∃ c : Int, (rd [[Ct.i (90 : Int)], [Ct.i (79 : Int)], [Ct.i (69 : Int)], [Ct.i (49 : Int)]] k 0).int = c ∧ IntKind.i64.wrap c = c ∧ bM.drop k = bw 1 c ++ bM.drop (k + 1) ∧ (0 ≤ c ∧ c < 256) := by
    intro k hk
    have c : k = 0 ∨ k = 1 ∨ k = 2 ∨ k = 3 := by omega
    rcases c with rfl | rfl | rfl | rfl
    · exact ⟨90, rfl, rfl, rfl, by omega⟩
    · exact ⟨79, rfl, rfl, rfl, by omega⟩
    · exact ⟨69, rfl, rfl, rfl, by omega⟩
    · exact ⟨49, rfl, rfl, rfl, by omega⟩
  have main : ∀ (d : Nat) (b : List (List Ct)) (fuel : Nat), d ≤ 4 → d < fuel → Byt (col b) → col b = bM.drop (4 - d) ++ t → ∃ b', iter jmg_L0_step fuel (((4 - d : Nat) : Int), 0, b) = some (4, 0, b') ∧ Byt (col b') ∧ col b' = t := by
    intro d
    induction d with
    | zero =>
      intro b fuel hd hf hB hc
      obtain ⟨fuel, rfl⟩ : ∃ j, fuel = j + 1 := ⟨fuel - 1, by omega⟩
      refine ⟨b, iter_inr ?_, hB, hc⟩
      simp only [jmg_L0_step, L4, Nat.sub_zero]
      rw [cond_not (by omega)]; rfl
    | succ d ih =>
      intro b fuel hd hf hB hcc
      obtain ⟨fuel, rfl⟩ : ∃ j, fuel = j + 1 := ⟨fuel - 1, by omega⟩
      have q1 : ((4 - (d + 1) : Nat) : Int) < 4 := by omega
      have q2 : (0 : Int) ≤ ((4 - (d + 1) : Nat) : Int) ∧ ((4 - (d + 1) : Nat) : Int) < 4 := by omega
      have w1 : IntKind.i64.wrap (((4 - (d + 1) : Nat) : Int) + 1) = ((4 - d : Nat) : Int) := by rw [wrap_in (by omega) (by omega)]; omega
      obtain ⟨c, hc, hw, hdr, hcr⟩ := hx (4 - (d + 1)) (by omega)
      rw [show 4 - (d + 1) + 1 = 4 - d by omega] at hdr
      rw [hdr, List.append_assoc] at hcc
      obtain ⟨b0, ⟨r1, r2⟩, B0, c0⟩ := by_f hB hcr hcc
      have hst : jmg_L0_step (((4 - (d + 1) : Nat) : Int), 0, b) = some (.inl (((4 - d : Nat) : Int), 0, b0)) := by
        simp only [jmg_L0_step, L4, cond_dec q1, cond_dec q2, r1, r2, Option.isSome_some, cond_true, Int.toNat_natCast, hc, hw, w1, bne_self_eq_false, cond_false, beq_self_eq_true]
      obtain ⟨b', g1, g2, g3⟩ := ih b0 fuel (by omega) (by omega) B0 c0
      exact ⟨b', by rw [iter_inl hst]; exact g1, g2, g3⟩
  obtain ⟨b', g1, g2, g3⟩ := main 4 b 5 (by omega) (by omega) hB hc
  have q : jmg_L0_p b 0 = true := by unfold jmg_L0_p; exact congrArg Option.isSome g1
  have q2 : jmg_L0_v b 0 = (4, 0, b') := by unfold jmg_L0_v loopRes; exact congrArg (fun o : Option (Int × Int × List (List Ct)) => o.getD default) g1
  have h1 : jmg_res b 0 = some (0, b') := by
    unfold jmg_res
    rw [q, q2]; rfl
  exact ⟨b', ⟨h1, by unfold jmg_v; rw [h1]; rfl⟩, g2, g3⟩
/-- A header's numbers as they may be laid. -/
def VHd (x0 x1 x2 x3 x4 x5 x6 x7 x8 x9 x10 x11 x12 : Int) : Prop := (0 ≤ x0 ∧ x0 < 65536) ∧ (0 ≤ x1 ∧ x1 < 65536) ∧ (0 ≤ x2 ∧ x2 < 65536) ∧ (0 ≤ x3 ∧ x3 < 65536) ∧ (0 ≤ x4 ∧ x4 < 65536) ∧ Fx x5 ∧ (0 ≤ x6 ∧ x6 < 18446744073709551616) ∧ (Fx x7 ∧ Fx x8 ∧ Fx x9) ∧ (0 ≤ x10 ∧ x10 < 65536) ∧ (0 ≤ x11 ∧ x11 < 65536) ∧ Fx x12
theorem hd_t {b : List (List Ct)} (e : Int) (hB : Byt (col b)) :
    ∃ x0 x1 x2 x3 x4 x5 x6 x7 x8 x9 x10 x11 x12 e' b', (jhd_res b e = some (e', x0, x1, x2, x3, x4, x5, x6, x7, x8, x9, x10, x11, x12, b') ∧ jhd_v b e = (e', x0, x1, x2, x3, x4, x5, x6, x7, x8, x9, x10, x11, x12, b')) ∧ Byt (col b') ∧ b'.length ≤ b.length ∧ (e' = 0 → e = 0 ∧ VHd x0 x1 x2 x3 x4 x5 x6 x7 x8 x9 x10 x11 x12 ∧ col b = bH x0 x1 x2 x3 x4 x5 x6 x7 x8 x9 x10 x11 x12 ++ col b') := by
  obtain ⟨x0, e0, b0, ⟨r0, s0⟩, B0, l0, i0⟩ := ha_t e hB
  obtain ⟨x1, e1, b1, ⟨r1, s1⟩, B1, l1, i1⟩ := ha_t e0 B0
  obtain ⟨x2, e2, b2, ⟨r2, s2⟩, B2, l2, i2⟩ := ha_t e1 B1
  obtain ⟨x3, e3, b3, ⟨r3, s3⟩, B3, l3, i3⟩ := ha_t e2 B2
  obtain ⟨x4, e4, b4, ⟨r4, s4⟩, B4, l4, i4⟩ := ha_t e3 B3
  obtain ⟨x5, e5, b5, ⟨r5, s5⟩, B5, l5, i5⟩ := fx_t e4 B4
  obtain ⟨x6, e6, b6, ⟨r6, s6⟩, B6, l6, i6⟩ := lo_t e5 B5
  obtain ⟨x7, x8, x9, e7, b7, ⟨r7, s7⟩, ⟨t7, u7⟩, B7, l7, i7⟩ := vc_t e6 B6
  obtain ⟨x10, e8, b8, ⟨r8, s8⟩, B8, l8, i8⟩ := ha_t e7 B7
  obtain ⟨x11, e9, b9, ⟨r9, s9⟩, B9, l9, i9⟩ := ha_t e8 B8
  obtain ⟨x12, e10, b10, ⟨r10, s10⟩, B10, l10, i10⟩ := fx_t e9 B9
  have h : jhd_res b e = some (e10, x0, x1, x2, x3, x4, x5, x6, x7, x8, x9, x10, x11, x12, b10) := by
    unfold jhd_res
    simp only [jhd_c17184720, jhd_c35502068, jhd_c36481480, jhd_c44496859, jhd_c66210604, jhd_c71052834, jhd_c85590025, jhd_c89713168, jhd_c90178404, jhd_c95884390, r0, s0, r1, s1, r2, s2, r3, s3, r4, s4, r5, s5, r6, s6, r7, s7, t7, u7, r8, s8, r9, s9, r10, s10, Option.isSome_some, cond_true]
  refine ⟨x0, x1, x2, x3, x4, x5, x6, x7, x8, x9, x10, x11, x12, e10, b10, ⟨h, by unfold jhd_v; rw [h]; rfl⟩, B10, by omega, fun h => ?_⟩
  obtain ⟨h10, v10, c10⟩ := i10 h
  obtain ⟨h9, v9, c9⟩ := i9 h10
  obtain ⟨h8, v8, c8⟩ := i8 h9
  obtain ⟨h7, v7, c7⟩ := i7 h8
  obtain ⟨h6, v6, c6⟩ := i6 h7
  obtain ⟨h5, v5, c5⟩ := i5 h6
  obtain ⟨h4, v4, c4⟩ := i4 h5
  obtain ⟨h3, v3, c3⟩ := i3 h4
  obtain ⟨h2, v2, c2⟩ := i2 h3
  obtain ⟨h1, v1, c1⟩ := i1 h2
  obtain ⟨h0, v0, c0⟩ := i0 h1
  refine ⟨h0, ⟨v0, v1, v2, v3, v4, v5, v6, v7, v8, v9, v10⟩, ?_⟩
  rw [c0, c1, c2, c3, c4, c5, c6, c7, c8, c9, c10]
  simp only [bH, List.append_assoc]
theorem hd_f {b : List (List Ct)} {t : List Int} {x0 x1 x2 x3 x4 x5 x6 x7 x8 x9 x10 x11 x12 : Int} (hB : Byt (col b)) (hv : VHd x0 x1 x2 x3 x4 x5 x6 x7 x8 x9 x10 x11 x12) (hc : col b = bH x0 x1 x2 x3 x4 x5 x6 x7 x8 x9 x10 x11 x12 ++ t) :
    ∃ b', (jhd_res b 0 = some (0, x0, x1, x2, x3, x4, x5, x6, x7, x8, x9, x10, x11, x12, b') ∧ jhd_v b 0 = (0, x0, x1, x2, x3, x4, x5, x6, x7, x8, x9, x10, x11, x12, b')) ∧ Byt (col b') ∧ col b' = t := by
  obtain ⟨v0, v1, v2, v3, v4, v5, v6, v7, v8, v9, v10⟩ := hv
  simp only [bH, List.append_assoc] at hc
  obtain ⟨b0, ⟨r0, s0⟩, B0, c0⟩ := ha_f hB v0 hc
  obtain ⟨b1, ⟨r1, s1⟩, B1, c1⟩ := ha_f B0 v1 c0
  obtain ⟨b2, ⟨r2, s2⟩, B2, c2⟩ := ha_f B1 v2 c1
  obtain ⟨b3, ⟨r3, s3⟩, B3, c3⟩ := ha_f B2 v3 c2
  obtain ⟨b4, ⟨r4, s4⟩, B4, c4⟩ := ha_f B3 v4 c3
  obtain ⟨b5, ⟨r5, s5⟩, B5, c5⟩ := fx_f B4 v5 c4
  obtain ⟨b6, ⟨r6, s6⟩, B6, c6⟩ := lo_f B5 v6 c5
  obtain ⟨b7, ⟨r7, s7⟩, ⟨t7, u7⟩, B7, c7⟩ := vc_f B6 v7 c6
  obtain ⟨b8, ⟨r8, s8⟩, B8, c8⟩ := ha_f B7 v8 c7
  obtain ⟨b9, ⟨r9, s9⟩, B9, c9⟩ := ha_f B8 v9 c8
  obtain ⟨b10, ⟨r10, s10⟩, B10, c10⟩ := fx_f B9 v10 c9
  have h : jhd_res b 0 = some (0, x0, x1, x2, x3, x4, x5, x6, x7, x8, x9, x10, x11, x12, b10) := by
    unfold jhd_res
    simp only [jhd_c17184720, jhd_c35502068, jhd_c36481480, jhd_c44496859, jhd_c66210604, jhd_c71052834, jhd_c85590025, jhd_c89713168, jhd_c90178404, jhd_c95884390, r0, s0, r1, s1, r2, s2, r3, s3, r4, s4, r5, s5, r6, s6, r7, s7, t7, u7, r8, s8, r9, s9, r10, s10, Option.isSome_some, cond_true]
  exact ⟨b10, ⟨h, by unfold jhd_v; rw [h]; rfl⟩, B10, c10⟩
/-- Pieces, row by row. -/
theorem catF_flat {f : List Ct → List Int} {l : List (List Ct)} : catF (fun k => f (l.getD k [])) l.length = l.flatMap f := by
  have main : ∀ n, n ≤ l.length → catF (fun k => f (l.getD k [])) n = (l.take n).flatMap f := by
    intro n
    induction n with
    | zero => intro _; rfl
    | succ n ih =>
      intro h
      simp only [catF]
      rw [ih (by omega), List.take_add_one, List.flatMap_append]
      congr 1
      have hn : n < l.length := by omega
      simp [List.getD, hn]
  rw [main l.length (Nat.le_refl _), List.take_length]
def eP (r : List Ct) : List Int := bw 1 (r.getD 0 (.i 0)).int ++ (b3 (r.getD 1 (.i 0)).int (r.getD 2 (.i 0)).int (r.getD 3 (.i 0)).int ++ bw 5 (r.getD 4 (.i 0)).int)
def eK (r : List Ct) : List Int := bw 5 (r.getD 0 (.i 0)).int ++ b3 (r.getD 1 (.i 0)).int (r.getD 2 (.i 0)).int (r.getD 3 (.i 0)).int
def eJ (r : List Ct) : List Int := bw 2 (r.getD 0 (.i 0)).int ++ (bw 2 (r.getD 1 (.i 0)).int ++ (bw 2 (r.getD 2 (.i 0)).int ++ bw 5 (r.getD 3 (.i 0)).int))
def eT (r : List Ct) : List Int := bw 1 (r.getD 0 (.i 0)).int ++ (bw 1 ((r.getD 1 (.i 0)).rows.length : Int) ++ (r.getD 1 (.i 0)).rows.flatMap eK)
def eS (r : List Ct) : List Int := bS13 (r.getD 0 (.i 0)).int (r.getD 1 (.i 0)).int (r.getD 2 (.i 0)).int (r.getD 3 (.i 0)).int (r.getD 4 (.i 0)).int (r.getD 5 (.i 0)).int (r.getD 6 (.i 0)).int (r.getD 7 (.i 0)).int (r.getD 8 (.i 0)).int (r.getD 9 (.i 0)).int (r.getD 10 (.i 0)).int (r.getD 11 (.i 0)).int (r.getD 12 (.i 0)).int
theorem catP {l : List (List Ct)} : catF (bP l) l.length = l.flatMap eP := catF_flat (f := eP)
theorem catK {l : List (List Ct)} : catF (bK l) l.length = l.flatMap eK := catF_flat (f := eK)
theorem catJ {l : List (List Ct)} : catF (bJ l) l.length = l.flatMap eJ := catF_flat (f := eJ)
theorem catS {l : List (List Ct)} : catF (bS l) l.length = l.flatMap eS := catF_flat (f := eS)
theorem catT {l : List (List Ct)} : catF (bT l) l.length = l.flatMap eT := by
  rw [← catF_flat (f := eT)]
  refine catF_congr fun k hk => ?_
  simp only [bT, catK]
  rfl
/-- A loop that reads rows: whatever comes; what was laid. -/
theorem t_loop {S : Type} {step : S → Option (S ⊕ S)} (mk : Int → Int → List (List Ct) → List (List Ct) → S) (f : List Ct → List Int) (V : List Ct → Prop)
    (h0 : ∀ e b rows, step (mk 0 e b rows) = some (.inr (mk 0 e b rows)))
    (h1 : ∀ (d : Nat) e b rows, e ≠ 0 → d < 256 → step (mk ((d + 1 : Nat) : Int) e b rows) = some (.inr (mk ((d + 1 : Nat) : Int) e b rows)))
    (h2 : ∀ (d : Nat) b rows, d < 256 → rows.length + d ≤ 300 → Byt (col b) → ∃ e' b' r, step (mk ((d + 1 : Nat) : Int) 0 b rows) = some (.inl (mk (d : Int) e' b' (rows ++ [r]))) ∧ Byt (col b') ∧ b'.length ≤ b.length ∧ (e' = 0 → V r ∧ col b = f r ++ col b')) :
    ∀ (d : Nat) e b rows fuel, d < 256 → d < fuel → rows.length + d ≤ 300 → Byt (col b) → ∃ k e' b' s, iter step fuel (mk (d : Int) e b rows) = some (mk k e' b' (rows ++ s)) ∧ Byt (col b') ∧ b'.length ≤ b.length ∧ s.length ≤ d ∧ (e' = 0 → e = 0 ∧ s.length = d ∧ (∀ r ∈ s, V r) ∧ col b = s.flatMap f ++ col b') := by
  intro d
  induction d with
  | zero =>
    intro e b rows fuel hd hf hl hB
    obtain ⟨fuel, rfl⟩ : ∃ j, fuel = j + 1 := ⟨fuel - 1, by omega⟩
    exact ⟨0, e, b, [], by rw [List.append_nil]; exact iter_inr (h0 e b rows), hB, Nat.le_refl _, Nat.le_refl _, fun h => ⟨h, rfl, fun r hr => (by cases hr), rfl⟩⟩
  | succ d ih =>
    intro e b rows fuel hd hf hl hB
    obtain ⟨fuel, rfl⟩ : ∃ j, fuel = j + 1 := ⟨fuel - 1, by omega⟩
    by_cases he : e = 0
    · subst he
      obtain ⟨e1, b1, r, g1, g2, g3, g4⟩ := h2 d b rows (by omega) (by omega) hB
      obtain ⟨k, e', b', s, k1, k2, k3, k4, k5⟩ := ih e1 b1 (rows ++ [r]) fuel (by omega) (by omega) (by simp only [List.length_append, List.length_cons, List.length_nil]; omega) g2
      refine ⟨k, e', b', r :: s, by rw [iter_inl g1, k1, List.append_assoc]; rfl, k2, by omega, by simp only [List.length_cons]; omega, fun h => ?_⟩
      obtain ⟨m1, m2, m3, m4⟩ := k5 h
      obtain ⟨m5, m6⟩ := g4 m1
      refine ⟨rfl, by simp only [List.length_cons]; omega, fun x hx => ?_, by rw [m6, m4, List.flatMap_cons, List.append_assoc]⟩
      rcases List.mem_cons.1 hx with rfl | hx
      · exact m5
      · exact m3 x hx
    · exact ⟨_, e, b, [], by rw [List.append_nil]; exact iter_inr (h1 d e b rows he (by omega)), hB, Nat.le_refl _, by simp, fun h => absurd h he⟩
theorem f_loop {S : Type} {step : S → Option (S ⊕ S)} (mk : Int → Int → List (List Ct) → List (List Ct) → S) (f : List Ct → List Int) (V : List Ct → Prop)
    (h0 : ∀ e b rows, step (mk 0 e b rows) = some (.inr (mk 0 e b rows)))
    (h3 : ∀ (d : Nat) b rows r t, d < 256 → rows.length + d ≤ 300 → Byt (col b) → V r → col b = f r ++ t → ∃ b', step (mk ((d + 1 : Nat) : Int) 0 b rows) = some (.inl (mk (d : Int) 0 b' (rows ++ [r]))) ∧ Byt (col b') ∧ col b' = t) :
    ∀ (s : List (List Ct)) b rows t fuel, s.length < 256 → s.length < fuel → rows.length + s.length ≤ 300 → Byt (col b) → (∀ r ∈ s, V r) → col b = s.flatMap f ++ t → ∃ b', iter step fuel (mk (s.length : Int) 0 b rows) = some (mk 0 0 b' (rows ++ s)) ∧ Byt (col b') ∧ col b' = t := by
  intro s
  induction s with
  | nil =>
    intro b rows t fuel hd hf hl hB hV hc
    obtain ⟨fuel, rfl⟩ : ∃ j, fuel = j + 1 := ⟨fuel - 1, by omega⟩
    exact ⟨b, by rw [List.append_nil]; exact iter_inr (h0 0 b rows), hB, hc⟩
  | cons r s ih =>
    intro b rows t fuel hd hf hl hB hV hc
    simp only [List.length_cons] at hd hf hl
    obtain ⟨fuel, rfl⟩ : ∃ j, fuel = j + 1 := ⟨fuel - 1, by omega⟩
    rw [List.flatMap_cons, List.append_assoc] at hc
    obtain ⟨b1, g1, g2, g3⟩ := h3 s.length b rows r _ (by omega) (by omega) hB (hV r List.mem_cons_self) hc
    obtain ⟨b', k1, k2, k3⟩ := ih b1 (rows ++ [r]) t fuel (by omega) (by omega) (by simp only [List.length_append, List.length_cons, List.length_nil]; omega) g2 (fun x hx => hV x (List.mem_cons_of_mem _ hx)) g3
    exact ⟨b', by rw [List.length_cons, iter_inl g1, k1, List.append_assoc]; rfl, k2, k3⟩
end Go.Proofs.Ytcpbiijegbbafaa

/- A reader's rows: what they answer, whatever the bytes are; what was laid is read. No condition. -/
set_option linter.unusedVariables false
set_option linter.unusedSimpArgs false
namespace Go.Proofs.Ytcpbiijegbbafaa
open Go.RowKit

def VP (r : List Ct) : Prop := ∃ a0 a1 a2 a3 a4 : Int, r = [.i a0, .i a1, .i a2, .i a3, .i a4] ∧ (0 ≤ a0 ∧ a0 < 256) ∧ (Fx a1 ∧ Fx a2 ∧ Fx a3) ∧ Fx a4
def VJ (r : List Ct) : Prop := ∃ a0 a1 a2 a3 : Int, r = [.i a0, .i a1, .i a2, .i a3] ∧ (-32768 ≤ a0 ∧ a0 ≤ 32767) ∧ (-32768 ≤ a1 ∧ a1 ≤ 32767) ∧ (-32768 ≤ a2 ∧ a2 ≤ 32767) ∧ Fx a3
def VK (r : List Ct) : Prop := ∃ a0 a1 a2 a3 : Int, r = [.i a0, .i a1, .i a2, .i a3] ∧ Fx a0 ∧ (Fx a1 ∧ Fx a2 ∧ Fx a3)
def VT (r : List Ct) : Prop := ∃ (w : Int) (K : List (List Ct)), r = [.i w, .l K] ∧ (0 ≤ w ∧ w < 256) ∧ K.length ≤ 16 ∧ ∀ x ∈ K, VK x
def VS (r : List Ct) : Prop := ∃ a0 a1 a2 a3 a4 a5 a6 a7 a8 a9 a10 a11 a12 : Int, r = [.i a0, .i a1, .i a2, .i a3, .i a4, .i a5, .i a6, .i a7, .i a8, .i a9, .i a10, .i a11, .i a12] ∧ (-32768 ≤ a0 ∧ a0 ≤ 32767) ∧ (0 ≤ a1 ∧ a1 < 65536) ∧ (Fx a3 ∧ Fx a4 ∧ Fx a5) ∧ ((a2 = 0 ∧ (a6 = 0 ∧ a7 = 0 ∧ a8 = 0 ∧ a9 = 0 ∧ a10 = 0 ∧ a11 = 0) ∧ Fx a12) ∨ (a2 = 1 ∧ (Fx a6 ∧ Fx a7 ∧ Fx a8) ∧ (Fx a9 ∧ Fx a10 ∧ Fx a11) ∧ a12 = 0))
theorem cP_of {l : List (List Ct)} (h : ∀ r ∈ l, VP r) : cP l = l := by
  refine List.ext_getElem cP_length fun i h1 h2 => ?_
  obtain ⟨a0, a1, a2, a3, a4, hr, _⟩ := h l[i] (List.getElem_mem h2)
  have hg : l.getD i [] = l[i] := by simp [List.getD, h2]
  simp only [cP, tab, List.getElem_map, List.getElem_range, gP, rd, hg, hr, List.getD_cons_zero, List.getD_cons_succ, Ct.int]
theorem cJ_of {l : List (List Ct)} (h : ∀ r ∈ l, VJ r) : cJ l = l := by
  refine List.ext_getElem cJ_length fun i h1 h2 => ?_
  obtain ⟨a0, a1, a2, a3, hr, _⟩ := h l[i] (List.getElem_mem h2)
  have hg : l.getD i [] = l[i] := by simp [List.getD, h2]
  simp only [cJ, tab, List.getElem_map, List.getElem_range, gJ, rd, hg, hr, List.getD_cons_zero, List.getD_cons_succ, Ct.int]
theorem cK_of {l : List (List Ct)} (h : ∀ r ∈ l, VK r) : cK l = l := by
  refine List.ext_getElem cK_length fun i h1 h2 => ?_
  obtain ⟨a0, a1, a2, a3, hr, _⟩ := h l[i] (List.getElem_mem h2)
  have hg : l.getD i [] = l[i] := by simp [List.getD, h2]
  simp only [cK, tab, List.getElem_map, List.getElem_range, gK, rd, hg, hr, List.getD_cons_zero, List.getD_cons_succ, Ct.int]
theorem cS_of {l : List (List Ct)} (h : ∀ r ∈ l, VS r) : cS l = l := by
  refine List.ext_getElem cS_length fun i h1 h2 => ?_
  obtain ⟨a0, a1, a2, a3, a4, a5, a6, a7, a8, a9, a10, a11, a12, hr, _⟩ := h l[i] (List.getElem_mem h2)
  have hg : l.getD i [] = l[i] := by simp [List.getD, h2]
  simp only [cS, tab, List.getElem_map, List.getElem_range, gS, rd, hg, hr, List.getD_cons_zero, List.getD_cons_succ, Ct.int]
theorem cT_of {l : List (List Ct)} (h : ∀ r ∈ l, VT r) : cT l = l := by
  refine List.ext_getElem cT_length fun i h1 h2 => ?_
  obtain ⟨w, K, hr, _, _, hK⟩ := h l[i] (List.getElem_mem h2)
  have hg : l.getD i [] = l[i] := by simp [List.getD, h2]
  simp only [cT, tab, List.getElem_map, List.getElem_range, gT, rd, hg, hr, List.getD_cons_zero, List.getD_cons_succ, Ct.int, Ct.rows, cK_of hK]
theorem few_of {l : List (List Ct)} (h : ∀ r ∈ l, VT r) : ∀ k, k < l.length → (rd l k 1).rows.length ≤ 16 := by
  intro k hk
  obtain ⟨w, K, hr, _, hl, _⟩ := h l[k] (List.getElem_mem hk)
  have hg : l.getD k [] = l[k] := by simp [List.getD, hk]
  simp only [rd, hg, hr, List.getD_cons_zero, List.getD_cons_succ, Ct.rows]
  exact hl
def mk4 (c e : Int) (b r : List (List Ct)) : Int × Int × List (List Ct) × List (List Ct) := (c, e, b, r)
def mk5 (k c e : Int) (b r : List (List Ct)) : Int × Int × Int × List (List Ct) × List (List Ct) := (c, k, e, b, r)
theorem ps_t : ∀ (d : Nat) e b rows fuel, d < 256 → d < fuel → rows.length + d ≤ 300 → Byt (col b) → ∃ k e' b' s, iter jpa_L0_step fuel (mk4 (d : Int) e b rows) = some (mk4 k e' b' (rows ++ s)) ∧ Byt (col b') ∧ b'.length ≤ b.length ∧ s.length ≤ d ∧ (e' = 0 → e = 0 ∧ s.length = d ∧ (∀ r ∈ s, VP r) ∧ col b = s.flatMap eP ++ col b') :=
  t_loop (step := jpa_L0_step) mk4 eP VP (fun e b rows => by
    show jpa_L0_step (0, e, b, rows) = some (.inr (0, e, b, rows))
    simp only [jpa_L0_step]
    rw [cond_not (by omega)]) (fun d e b rows he hd => by
    have q1 : ((d + 1 : Nat) : Int) > 0 := by omega
    have b1 : (e == 0) = false := by simpa using he
    show jpa_L0_step (((d + 1 : Nat) : Int), e, b, rows) = some (.inr (((d + 1 : Nat) : Int), e, b, rows))
    simp only [jpa_L0_step, cond_dec q1, b1, cond_false]) (fun d b rows hd hl hB => by
    have q1 : ((d + 1 : Nat) : Int) > 0 := by omega
    have w1 : IntKind.i64.wrap (((d + 1 : Nat) : Int) - 1) = (d : Int) := by rw [wrap_in (by omega) (by omega)]; omega
    obtain ⟨a0, e0, b0, ⟨r0, s0⟩, B0, l0, i0⟩ := by_t 0 hB
    obtain ⟨a1, a2, a3, e1, b1, ⟨r1, s1⟩, ⟨t1, u1⟩, B1, l1, i1⟩ := vc_t e0 B0
    obtain ⟨a4, e2, b2, ⟨r2, s2⟩, B2, l2, i2⟩ := fx_t e1 B1
    refine ⟨e2, b2, [.i a0, .i a1, .i a2, .i a3, .i a4], ?_, B2, by omega, fun h => ?_⟩
    · show jpa_L0_step (((d + 1 : Nat) : Int), 0, b, rows) = some (.inl ((d : Int), e2, b2, rows ++ [[.i a0, .i a1, .i a2, .i a3, .i a4]]))
      simp only [jpa_L0_step, jpa_c20883189, jpa_c47053767, jpa_c47249889, jpa_c4755454, jpa_c50623285, jpa_c5883654, jpa_c60236699, jpa_c65951607, jpa_c73035710, jpa_c73656058, jpa_c80005064, jpa_c83617453, cond_dec q1, r0, s0, r1, s1, t1, u1, r2, s2, Option.isSome_some, cond_true, w1, beq_self_eq_true]
      exact ob_step (by simp only [List.length_cons, List.length_nil]; omega) rfl
    · obtain ⟨h2, v2, c2⟩ := i2 h
      obtain ⟨h1, v1, c1⟩ := i1 h2
      obtain ⟨h0, v0, c0⟩ := i0 h1
      refine ⟨⟨a0, a1, a2, a3, a4, rfl, v0, v1, v2⟩, ?_⟩
      rw [c0, c1, c2]
      simp only [eP, List.getD_cons_zero, List.getD_cons_succ, Ct.int, List.append_assoc])
theorem ps_f : ∀ (s : List (List Ct)) b rows t fuel, s.length < 256 → s.length < fuel → rows.length + s.length ≤ 300 → Byt (col b) → (∀ r ∈ s, VP r) → col b = s.flatMap eP ++ t → ∃ b', iter jpa_L0_step fuel (mk4 (s.length : Int) 0 b rows) = some (mk4 0 0 b' (rows ++ s)) ∧ Byt (col b') ∧ col b' = t :=
  f_loop (step := jpa_L0_step) mk4 eP VP (fun e b rows => by
    show jpa_L0_step (0, e, b, rows) = some (.inr (0, e, b, rows))
    simp only [jpa_L0_step]
    rw [cond_not (by omega)]) (fun d b rows r t hd hl hB hV hc => by
    have q1 : ((d + 1 : Nat) : Int) > 0 := by omega
    have w1 : IntKind.i64.wrap (((d + 1 : Nat) : Int) - 1) = (d : Int) := by rw [wrap_in (by omega) (by omega)]; omega
    obtain ⟨a0, a1, a2, a3, a4, rfl, v0, v1, v2⟩ := hV
    simp only [eP, List.getD_cons_zero, List.getD_cons_succ, Ct.int, List.append_assoc] at hc
    obtain ⟨b0, ⟨r0, s0⟩, B0, c0⟩ := by_f hB v0 hc
    obtain ⟨b1, ⟨r1, s1⟩, ⟨t1, u1⟩, B1, c1⟩ := vc_f B0 v1 c0
    obtain ⟨b2, ⟨r2, s2⟩, B2, c2⟩ := fx_f B1 v2 c1
    refine ⟨b2, ?_, B2, c2⟩
    show jpa_L0_step (((d + 1 : Nat) : Int), 0, b, rows) = some (.inl ((d : Int), 0, b2, rows ++ [[.i a0, .i a1, .i a2, .i a3, .i a4]]))
    simp only [jpa_L0_step, jpa_c20883189, jpa_c47053767, jpa_c47249889, jpa_c4755454, jpa_c50623285, jpa_c5883654, jpa_c60236699, jpa_c65951607, jpa_c73035710, jpa_c73656058, jpa_c80005064, jpa_c83617453, cond_dec q1, r0, s0, r1, s1, t1, u1, r2, s2, Option.isSome_some, cond_true, w1, beq_self_eq_true]
    exact ob_step (by simp only [List.length_cons, List.length_nil]; omega) rfl)
theorem js_t : ∀ (d : Nat) e b rows fuel, d < 256 → d < fuel → rows.length + d ≤ 300 → Byt (col b) → ∃ k e' b' s, iter jpa_L4_step fuel (mk4 (d : Int) e b rows) = some (mk4 k e' b' (rows ++ s)) ∧ Byt (col b') ∧ b'.length ≤ b.length ∧ s.length ≤ d ∧ (e' = 0 → e = 0 ∧ s.length = d ∧ (∀ r ∈ s, VJ r) ∧ col b = s.flatMap eJ ++ col b') :=
  t_loop (step := jpa_L4_step) mk4 eJ VJ (fun e b rows => by
    show jpa_L4_step (0, e, b, rows) = some (.inr (0, e, b, rows))
    simp only [jpa_L4_step]
    rw [cond_not (by omega)]) (fun d e b rows he hd => by
    have q1 : ((d + 1 : Nat) : Int) > 0 := by omega
    have b1 : (e == 0) = false := by simpa using he
    show jpa_L4_step (((d + 1 : Nat) : Int), e, b, rows) = some (.inr (((d + 1 : Nat) : Int), e, b, rows))
    simp only [jpa_L4_step, cond_dec q1, b1, cond_false]) (fun d b rows hd hl hB => by
    have q1 : ((d + 1 : Nat) : Int) > 0 := by omega
    have w1 : IntKind.i64.wrap (((d + 1 : Nat) : Int) - 1) = (d : Int) := by rw [wrap_in (by omega) (by omega)]; omega
    obtain ⟨a0, e0, b0, ⟨r0, s0⟩, B0, l0, i0⟩ := sm_t 0 hB
    obtain ⟨a1, e1, b1, ⟨r1, s1⟩, B1, l1, i1⟩ := sm_t e0 B0
    obtain ⟨a2, e2, b2, ⟨r2, s2⟩, B2, l2, i2⟩ := sm_t e1 B1
    obtain ⟨a3, e3, b3, ⟨r3, s3⟩, B3, l3, i3⟩ := fx_t e2 B2
    refine ⟨e3, b3, [.i a0, .i a1, .i a2, .i a3], ?_, B3, by omega, fun h => ?_⟩
    · show jpa_L4_step (((d + 1 : Nat) : Int), 0, b, rows) = some (.inl ((d : Int), e3, b3, rows ++ [[.i a0, .i a1, .i a2, .i a3]]))
      simp only [jpa_L4_step, jpa_c20883189, jpa_c47053767, jpa_c47249889, jpa_c4755454, jpa_c50623285, jpa_c5883654, jpa_c60236699, jpa_c65951607, jpa_c73035710, jpa_c73656058, jpa_c80005064, jpa_c83617453, cond_dec q1, r0, s0, r1, s1, r2, s2, r3, s3, Option.isSome_some, cond_true, w1, beq_self_eq_true]
      exact ob_step (by simp only [List.length_cons, List.length_nil]; omega) rfl
    · obtain ⟨h3, v3, c3⟩ := i3 h
      obtain ⟨h2, v2, c2⟩ := i2 h3
      obtain ⟨h1, v1, c1⟩ := i1 h2
      obtain ⟨h0, v0, c0⟩ := i0 h1
      refine ⟨⟨a0, a1, a2, a3, rfl, v0, v1, v2, v3⟩, ?_⟩
      rw [c0, c1, c2, c3]
      simp only [eJ, List.getD_cons_zero, List.getD_cons_succ, Ct.int, List.append_assoc])
theorem js_f : ∀ (s : List (List Ct)) b rows t fuel, s.length < 256 → s.length < fuel → rows.length + s.length ≤ 300 → Byt (col b) → (∀ r ∈ s, VJ r) → col b = s.flatMap eJ ++ t → ∃ b', iter jpa_L4_step fuel (mk4 (s.length : Int) 0 b rows) = some (mk4 0 0 b' (rows ++ s)) ∧ Byt (col b') ∧ col b' = t :=
  f_loop (step := jpa_L4_step) mk4 eJ VJ (fun e b rows => by
    show jpa_L4_step (0, e, b, rows) = some (.inr (0, e, b, rows))
    simp only [jpa_L4_step]
    rw [cond_not (by omega)]) (fun d b rows r t hd hl hB hV hc => by
    have q1 : ((d + 1 : Nat) : Int) > 0 := by omega
    have w1 : IntKind.i64.wrap (((d + 1 : Nat) : Int) - 1) = (d : Int) := by rw [wrap_in (by omega) (by omega)]; omega
    obtain ⟨a0, a1, a2, a3, rfl, v0, v1, v2, v3⟩ := hV
    simp only [eJ, List.getD_cons_zero, List.getD_cons_succ, Ct.int, List.append_assoc] at hc
    obtain ⟨b0, ⟨r0, s0⟩, B0, c0⟩ := sm_f hB v0 hc
    obtain ⟨b1, ⟨r1, s1⟩, B1, c1⟩ := sm_f B0 v1 c0
    obtain ⟨b2, ⟨r2, s2⟩, B2, c2⟩ := sm_f B1 v2 c1
    obtain ⟨b3, ⟨r3, s3⟩, B3, c3⟩ := fx_f B2 v3 c2
    refine ⟨b3, ?_, B3, c3⟩
    show jpa_L4_step (((d + 1 : Nat) : Int), 0, b, rows) = some (.inl ((d : Int), 0, b3, rows ++ [[.i a0, .i a1, .i a2, .i a3]]))
    simp only [jpa_L4_step, jpa_c20883189, jpa_c47053767, jpa_c47249889, jpa_c4755454, jpa_c50623285, jpa_c5883654, jpa_c60236699, jpa_c65951607, jpa_c73035710, jpa_c73656058, jpa_c80005064, jpa_c83617453, cond_dec q1, r0, s0, r1, s1, r2, s2, r3, s3, Option.isSome_some, cond_true, w1, beq_self_eq_true]
    exact ob_step (by simp only [List.length_cons, List.length_nil]; omega) rfl)
theorem ks_t (c : Int) : ∀ (d : Nat) e b rows fuel, d < 256 → d < fuel → rows.length + d ≤ 300 → Byt (col b) → ∃ k e' b' s, iter jtr_L0_step fuel ((mk5 c) (d : Int) e b rows) = some ((mk5 c) k e' b' (rows ++ s)) ∧ Byt (col b') ∧ b'.length ≤ b.length ∧ s.length ≤ d ∧ (e' = 0 → e = 0 ∧ s.length = d ∧ (∀ r ∈ s, VK r) ∧ col b = s.flatMap eK ++ col b') :=
  t_loop (step := jtr_L0_step) (mk5 c) eK VK (fun e b rows => by
    show jtr_L0_step (0, c, e, b, rows) = some (.inr (0, c, e, b, rows))
    simp only [jtr_L0_step]
    rw [cond_not (by omega)]) (fun d e b rows he hd => by
    have q1 : ((d + 1 : Nat) : Int) > 0 := by omega
    have b1 : (e == 0) = false := by simpa using he
    show jtr_L0_step (((d + 1 : Nat) : Int), c, e, b, rows) = some (.inr (((d + 1 : Nat) : Int), c, e, b, rows))
    simp only [jtr_L0_step, cond_dec q1, b1, cond_false]) (fun d b rows hd hl hB => by
    have q1 : ((d + 1 : Nat) : Int) > 0 := by omega
    have w1 : IntKind.i64.wrap (((d + 1 : Nat) : Int) - 1) = (d : Int) := by rw [wrap_in (by omega) (by omega)]; omega
    obtain ⟨a0, e0, b0, ⟨r0, s0⟩, B0, l0, i0⟩ := fx_t 0 hB
    obtain ⟨a1, a2, a3, e1, b1, ⟨r1, s1⟩, ⟨t1, u1⟩, B1, l1, i1⟩ := vc_t e0 B0
    refine ⟨e1, b1, [.i a0, .i a1, .i a2, .i a3], ?_, B1, by omega, fun h => ?_⟩
    · show jtr_L0_step (((d + 1 : Nat) : Int), c, 0, b, rows) = some (.inl ((d : Int), c, e1, b1, rows ++ [[.i a0, .i a1, .i a2, .i a3]]))
      simp only [jtr_L0_step, jtr_c1216445, jtr_c37792205, cond_dec q1, r0, s0, r1, s1, t1, u1, Option.isSome_some, cond_true, w1, beq_self_eq_true]
      exact ob_step (by simp only [List.length_cons, List.length_nil]; omega) rfl
    · obtain ⟨h1, v1, c1⟩ := i1 h
      obtain ⟨h0, v0, c0⟩ := i0 h1
      refine ⟨⟨a0, a1, a2, a3, rfl, v0, v1⟩, ?_⟩
      rw [c0, c1]
      simp only [eK, List.getD_cons_zero, List.getD_cons_succ, Ct.int, List.append_assoc])
theorem ks_f (c : Int) : ∀ (s : List (List Ct)) b rows t fuel, s.length < 256 → s.length < fuel → rows.length + s.length ≤ 300 → Byt (col b) → (∀ r ∈ s, VK r) → col b = s.flatMap eK ++ t → ∃ b', iter jtr_L0_step fuel ((mk5 c) (s.length : Int) 0 b rows) = some ((mk5 c) 0 0 b' (rows ++ s)) ∧ Byt (col b') ∧ col b' = t :=
  f_loop (step := jtr_L0_step) (mk5 c) eK VK (fun e b rows => by
    show jtr_L0_step (0, c, e, b, rows) = some (.inr (0, c, e, b, rows))
    simp only [jtr_L0_step]
    rw [cond_not (by omega)]) (fun d b rows r t hd hl hB hV hc => by
    have q1 : ((d + 1 : Nat) : Int) > 0 := by omega
    have w1 : IntKind.i64.wrap (((d + 1 : Nat) : Int) - 1) = (d : Int) := by rw [wrap_in (by omega) (by omega)]; omega
    obtain ⟨a0, a1, a2, a3, rfl, v0, v1⟩ := hV
    simp only [eK, List.getD_cons_zero, List.getD_cons_succ, Ct.int, List.append_assoc] at hc
    obtain ⟨b0, ⟨r0, s0⟩, B0, c0⟩ := fx_f hB v0 hc
    obtain ⟨b1, ⟨r1, s1⟩, ⟨t1, u1⟩, B1, c1⟩ := vc_f B0 v1 c0
    refine ⟨b1, ?_, B1, c1⟩
    show jtr_L0_step (((d + 1 : Nat) : Int), c, 0, b, rows) = some (.inl ((d : Int), c, 0, b1, rows ++ [[.i a0, .i a1, .i a2, .i a3]]))
    simp only [jtr_L0_step, jtr_c1216445, jtr_c37792205, cond_dec q1, r0, s0, r1, s1, t1, u1, Option.isSome_some, cond_true, w1, beq_self_eq_true]
    exact ob_step (by simp only [List.length_cons, List.length_nil]; omega) rfl)
theorem tr_t {b : List (List Ct)} (hB : Byt (col b)) :
    ∃ w K e' b', (jtr_res b 0 = some (e', w, b', K) ∧ jtr_v b 0 = (e', w, b', K)) ∧ Byt (col b') ∧ b'.length ≤ b.length ∧ (e' = 0 → VT [.i w, .l K] ∧ col b = eT [.i w, .l K] ++ col b') := by
  obtain ⟨w, e0, b0, ⟨r0, s0⟩, B0, l0, i0⟩ := by_t 0 hB
  obtain ⟨n, e1, b1, ⟨r1, s1⟩, B1, l1, hn, i1⟩ := mn_t e0 B0 16 23 (by omega) (by omega)
  obtain ⟨n, rfl⟩ := Int.eq_ofNat_of_zero_le hn.1
  obtain ⟨k, e2, b2, K, g, B2, l2, hl, i2⟩ := ks_t (n : Int) n e1 b1 [] 300 (by omega) (by omega) (by simp only [List.length_nil]; omega) B1
  rw [List.nil_append] at g
  have j1 : jtr_L0_p b 0 = true := by simp only [jtr_L0_p, jtr_c1216445, jtr_c37792205, s0, s1]; exact congrArg Option.isSome g
  have j2 : jtr_L0_v b 0 = (k, (n : Int), e2, b2, K) := by simp only [jtr_L0_v, loopRes, jtr_c1216445, jtr_c37792205, s0, s1]; exact congrArg (fun o : Option (Int × Int × Int × List (List Ct) × List (List Ct)) => o.getD default) g
  have h : jtr_res b 0 = some (e2, w, b2, K) := by
    unfold jtr_res
    simp only [jtr_c1216445, jtr_c37792205, r0, s0, r1, s1, j1, j2, Option.isSome_some, cond_true]
  refine ⟨w, K, e2, b2, ⟨h, by unfold jtr_v; rw [h]; rfl⟩, B2, by omega, fun hz => ?_⟩
  obtain ⟨h1, m1, m2, c2⟩ := i2 hz
  obtain ⟨h0, hm, c1⟩ := i1 h1
  obtain ⟨_, v0, c0⟩ := i0 h0
  refine ⟨⟨w, K, rfl, v0, by omega, m2⟩, ?_⟩
  rw [c0, c1, c2]
  simp only [eT, List.getD_cons_zero, List.getD_cons_succ, Ct.int, Ct.rows, m1, List.append_assoc]
theorem tr_f {b : List (List Ct)} {t : List Int} {r : List Ct} (hB : Byt (col b)) (hV : VT r) (hc : col b = eT r ++ t) :
    ∃ w K b', r = [.i w, .l K] ∧ (jtr_res b 0 = some (0, w, b', K) ∧ jtr_v b 0 = (0, w, b', K)) ∧ Byt (col b') ∧ col b' = t := by
  obtain ⟨w, K, rfl, hw, hK, hv⟩ := hV
  simp only [eT, List.getD_cons_zero, List.getD_cons_succ, Ct.int, Ct.rows, List.append_assoc] at hc
  obtain ⟨b0, ⟨r0, s0⟩, B0, c0⟩ := by_f hB hw hc
  obtain ⟨b1, ⟨r1, s1⟩, B1, c1⟩ := mn_f B0 16 23 (by omega) (by omega) c0
  obtain ⟨b2, g, B2, c2⟩ := ks_f (K.length : Int) K b1 [] t 300 (by omega) (by omega) (by simp only [List.length_nil]; omega) B1 hv c1
  rw [List.nil_append] at g
  have j1 : jtr_L0_p b 0 = true := by simp only [jtr_L0_p, jtr_c1216445, jtr_c37792205, s0, s1]; exact congrArg Option.isSome g
  have j2 : jtr_L0_v b 0 = (0, (K.length : Int), 0, b2, K) := by simp only [jtr_L0_v, loopRes, jtr_c1216445, jtr_c37792205, s0, s1]; exact congrArg (fun o : Option (Int × Int × Int × List (List Ct) × List (List Ct)) => o.getD default) g
  have h : jtr_res b 0 = some (0, w, b2, K) := by
    unfold jtr_res
    simp only [jtr_c1216445, jtr_c37792205, r0, s0, r1, s1, j1, j2, Option.isSome_some, cond_true]
  exact ⟨w, K, b2, rfl, ⟨h, by unfold jtr_v; rw [h]; rfl⟩, B2, c2⟩
theorem sh_t {b : List (List Ct)} (hB : Byt (col b)) :
    ∃ a0 a1 a2 a3 a4 a5 a6 a7 a8 a9 a10 a11 a12 e' b', (jsh_res b 0 = some (e', a0, a1, a2, a3, a4, a5, a6, a7, a8, a9, a10, a11, a12, b') ∧ jsh_v b 0 = (e', a0, a1, a2, a3, a4, a5, a6, a7, a8, a9, a10, a11, a12, b')) ∧ Byt (col b') ∧ b'.length ≤ b.length ∧ (e' = 0 → VS [.i a0, .i a1, .i a2, .i a3, .i a4, .i a5, .i a6, .i a7, .i a8, .i a9, .i a10, .i a11, .i a12] ∧ col b = eS [.i a0, .i a1, .i a2, .i a3, .i a4, .i a5, .i a6, .i a7, .i a8, .i a9, .i a10, .i a11, .i a12] ++ col b') := by
  obtain ⟨a0, e0, b0, ⟨r0, s0⟩, B0, l0, i0⟩ := sm_t 0 hB
  obtain ⟨a1, e1, b1, ⟨r1, s1⟩, B1, l1, i1⟩ := ha_t e0 B0
  obtain ⟨a2, e2, b2, ⟨r2, s2⟩, B2, l2, i2⟩ := by_t e1 B1
  obtain ⟨a3, a4, a5, e3, b3, ⟨r3, s3⟩, ⟨t3, u3⟩, B3, l3, i3⟩ := vc_t e2 B2
  by_cases k0 : a2 = 0
  · subst k0
    obtain ⟨a12, e4, b4, ⟨r4, s4⟩, B4, l4, i4⟩ := fx_t e3 B3
    have h : jsh_res b 0 = some (e4, a0, a1, 0, a3, a4, a5, 0, 0, 0, 0, 0, 0, a12, b4) := by
      unfold jsh_res
      simp only [jsh_c1280629, jsh_c13908887, jsh_c36746435, jsh_c44858984, jsh_c50075936, jsh_c95629817, r0, s0, r1, s1, r2, s2, r3, s3, t3, u3, r4, s4, Option.isSome_some, cond_true, cond_false, beq_self_eq_true]
    refine ⟨a0, a1, 0, a3, a4, a5, 0, 0, 0, 0, 0, 0, a12, e4, b4, ⟨h, by unfold jsh_v; rw [h]; rfl⟩, B4, by omega, fun h => ?_⟩
    obtain ⟨h4, v4, c4⟩ := i4 h
    obtain ⟨h3, v3, c3⟩ := i3 h4
    obtain ⟨h2, v2, c2⟩ := i2 h3
    obtain ⟨h1, v1, c1⟩ := i1 h2
    obtain ⟨h0, v0, c0⟩ := i0 h1
    refine ⟨⟨a0, a1, 0, a3, a4, a5, 0, 0, 0, 0, 0, 0, a12, rfl, v0, v1, v3, .inl ⟨rfl, ⟨rfl, rfl, rfl, rfl, rfl, rfl⟩, v4⟩⟩, ?_⟩
    rw [c0, c1, c2, c3, c4]
    simp only [eS, bS13, List.getD_cons_zero, List.getD_cons_succ, Ct.int, if_true, List.append_assoc]
  · have kb0 : (a2 == 0) = false := by simpa using k0
    by_cases k1 : a2 = 1
    · subst k1
      obtain ⟨a6, a7, a8, e4, b4, ⟨r4, s4⟩, ⟨t4, u4⟩, B4, l4, i4⟩ := vc_t e3 B3
      obtain ⟨a9, a10, a11, e5, b5, ⟨r5, s5⟩, ⟨t5, u5⟩, B5, l5, i5⟩ := vc_t e4 B4
      have h : jsh_res b 0 = some (e5, a0, a1, 1, a3, a4, a5, a6, a7, a8, a9, a10, a11, 0, b5) := by
        unfold jsh_res
        simp only [jsh_c1280629, jsh_c13908887, jsh_c36746435, jsh_c44858984, jsh_c50075936, jsh_c95629817, r0, s0, r1, s1, r2, s2, r3, s3, t3, u3, r4, s4, t4, u4, r5, s5, t5, u5, Option.isSome_some, cond_true, cond_false, show ((1 : Int) == 0) = false from rfl, beq_self_eq_true]
      refine ⟨a0, a1, 1, a3, a4, a5, a6, a7, a8, a9, a10, a11, 0, e5, b5, ⟨h, by unfold jsh_v; rw [h]; rfl⟩, B5, by omega, fun h => ?_⟩
      obtain ⟨h5, v5, c5⟩ := i5 h
      obtain ⟨h4, v4, c4⟩ := i4 h5
      obtain ⟨h3, v3, c3⟩ := i3 h4
      obtain ⟨h2, v2, c2⟩ := i2 h3
      obtain ⟨h1, v1, c1⟩ := i1 h2
      obtain ⟨h0, v0, c0⟩ := i0 h1
      refine ⟨⟨a0, a1, 1, a3, a4, a5, a6, a7, a8, a9, a10, a11, 0, rfl, v0, v1, v3, .inr ⟨rfl, v4, v5, rfl⟩⟩, ?_⟩
      rw [c0, c1, c2, c3, c4, c5]
      simp only [eS, bS13, List.getD_cons_zero, List.getD_cons_succ, Ct.int, List.append_assoc]
      rw [if_neg (by omega)]
      simp only [List.append_assoc]
    · have kb1 : (a2 == 1) = false := by simpa using k1
      by_cases he : e3 = 0
      · subst he
        have h : jsh_res b 0 = some (25, a0, a1, a2, a3, a4, a5, 0, 0, 0, 0, 0, 0, 0, []) := by
          unfold jsh_res
          simp only [jsh_c1280629, jsh_c13908887, jsh_c36746435, jsh_c44858984, jsh_c50075936, jsh_c95629817, r0, s0, r1, s1, r2, s2, r3, s3, t3, u3, Option.isSome_some, cond_true, cond_false, kb0, kb1, beq_self_eq_true]
        refine ⟨a0, a1, a2, a3, a4, a5, 0, 0, 0, 0, 0, 0, 0, 25, [], ⟨h, by unfold jsh_v; rw [h]; rfl⟩, fun y hy => (by cases hy), (by simp), fun h => (by cases h)⟩
      · have b1 : (e3 == 0) = false := by simpa using he
        have h : jsh_res b 0 = some (e3, a0, a1, a2, a3, a4, a5, 0, 0, 0, 0, 0, 0, 0, b3) := by
          unfold jsh_res
          simp only [jsh_c1280629, jsh_c13908887, jsh_c36746435, jsh_c44858984, jsh_c50075936, jsh_c95629817, r0, s0, r1, s1, r2, s2, r3, s3, t3, u3, Option.isSome_some, cond_true, cond_false, kb0, kb1, b1]
        refine ⟨a0, a1, a2, a3, a4, a5, 0, 0, 0, 0, 0, 0, 0, e3, b3, ⟨h, by unfold jsh_v; rw [h]; rfl⟩, B3, by omega, fun h => absurd h he⟩
theorem sh_f {b : List (List Ct)} {t : List Int} {r : List Ct} (hB : Byt (col b)) (hV : VS r) (hc : col b = eS r ++ t) :
    ∃ a0 a1 a2 a3 a4 a5 a6 a7 a8 a9 a10 a11 a12 b', r = [.i a0, .i a1, .i a2, .i a3, .i a4, .i a5, .i a6, .i a7, .i a8, .i a9, .i a10, .i a11, .i a12] ∧ (jsh_res b 0 = some (0, a0, a1, a2, a3, a4, a5, a6, a7, a8, a9, a10, a11, a12, b') ∧ jsh_v b 0 = (0, a0, a1, a2, a3, a4, a5, a6, a7, a8, a9, a10, a11, a12, b')) ∧ Byt (col b') ∧ col b' = t := by
  obtain ⟨a0, a1, a2, a3, a4, a5, a6, a7, a8, a9, a10, a11, a12, rfl, v0, v1, v3, hk⟩ := hV
  rcases hk with ⟨rfl, ⟨rfl, rfl, rfl, rfl, rfl, rfl⟩, v4⟩ | ⟨rfl, v4, v5, rfl⟩
  · simp only [eS, bS13, List.getD_cons_zero, List.getD_cons_succ, Ct.int, if_true, List.append_assoc] at hc
    obtain ⟨b0, ⟨r0, s0⟩, B0, c0⟩ := sm_f hB v0 hc
    obtain ⟨b1, ⟨r1, s1⟩, B1, c1⟩ := ha_f B0 v1 c0
    obtain ⟨b2, ⟨r2, s2⟩, B2, c2⟩ := by_f B1 ⟨by omega, by omega⟩ c1
    obtain ⟨b3, ⟨r3, s3⟩, ⟨t3, u3⟩, B3, c3⟩ := vc_f B2 v3 c2
    obtain ⟨b4, ⟨r4, s4⟩, B4, c4⟩ := fx_f B3 v4 c3
    have h : jsh_res b 0 = some (0, a0, a1, 0, a3, a4, a5, 0, 0, 0, 0, 0, 0, a12, b4) := by
      unfold jsh_res
      simp only [jsh_c1280629, jsh_c13908887, jsh_c36746435, jsh_c44858984, jsh_c50075936, jsh_c95629817, r0, s0, r1, s1, r2, s2, r3, s3, t3, u3, r4, s4, Option.isSome_some, cond_true, cond_false, beq_self_eq_true]
    exact ⟨a0, a1, 0, a3, a4, a5, 0, 0, 0, 0, 0, 0, a12, b4, rfl, ⟨h, by unfold jsh_v; rw [h]; rfl⟩, B4, c4⟩
  · simp only [eS, bS13, List.getD_cons_zero, List.getD_cons_succ, Ct.int] at hc
    rw [if_neg (by omega)] at hc
    simp only [List.append_assoc] at hc
    obtain ⟨b0, ⟨r0, s0⟩, B0, c0⟩ := sm_f hB v0 hc
    obtain ⟨b1, ⟨r1, s1⟩, B1, c1⟩ := ha_f B0 v1 c0
    obtain ⟨b2, ⟨r2, s2⟩, B2, c2⟩ := by_f B1 ⟨by omega, by omega⟩ c1
    obtain ⟨b3, ⟨r3, s3⟩, ⟨t3, u3⟩, B3, c3⟩ := vc_f B2 v3 c2
    obtain ⟨b4, ⟨r4, s4⟩, ⟨t4, u4⟩, B4, c4⟩ := vc_f B3 v4 c3
    obtain ⟨b5, ⟨r5, s5⟩, ⟨t5, u5⟩, B5, c5⟩ := vc_f B4 v5 c4
    have h : jsh_res b 0 = some (0, a0, a1, 1, a3, a4, a5, a6, a7, a8, a9, a10, a11, 0, b5) := by
      unfold jsh_res
      simp only [jsh_c1280629, jsh_c13908887, jsh_c36746435, jsh_c44858984, jsh_c50075936, jsh_c95629817, r0, s0, r1, s1, r2, s2, r3, s3, t3, u3, r4, s4, t4, u4, r5, s5, t5, u5, Option.isSome_some, cond_true, cond_false, show ((1 : Int) == 0) = false from rfl, beq_self_eq_true]
    exact ⟨a0, a1, 1, a3, a4, a5, a6, a7, a8, a9, a10, a11, 0, b5, rfl, ⟨h, by unfold jsh_v; rw [h]; rfl⟩, B5, c5⟩
theorem ts_t : ∀ (d : Nat) e b rows fuel, d < 256 → d < fuel → rows.length + d ≤ 300 → Byt (col b) → ∃ k e' b' s, iter jpa_L2_step fuel (mk4 (d : Int) e b rows) = some (mk4 k e' b' (rows ++ s)) ∧ Byt (col b') ∧ b'.length ≤ b.length ∧ s.length ≤ d ∧ (e' = 0 → e = 0 ∧ s.length = d ∧ (∀ r ∈ s, VT r) ∧ col b = s.flatMap eT ++ col b') :=
  t_loop (step := jpa_L2_step) mk4 eT VT (fun e b rows => by
    show jpa_L2_step (0, e, b, rows) = some (.inr (0, e, b, rows))
    simp only [jpa_L2_step]
    rw [cond_not (by omega)]) (fun d e b rows he hd => by
    have q1 : ((d + 1 : Nat) : Int) > 0 := by omega
    have b1 : (e == 0) = false := by simpa using he
    show jpa_L2_step (((d + 1 : Nat) : Int), e, b, rows) = some (.inr (((d + 1 : Nat) : Int), e, b, rows))
    simp only [jpa_L2_step, cond_dec q1, b1, cond_false]) (fun d b rows hd hl hB => by
    have q1 : ((d + 1 : Nat) : Int) > 0 := by omega
    have w1 : IntKind.i64.wrap (((d + 1 : Nat) : Int) - 1) = (d : Int) := by rw [wrap_in (by omega) (by omega)]; omega
    obtain ⟨w, K, e0, b0, ⟨r0, s0⟩, B0, l0, i0⟩ := tr_t hB
    refine ⟨e0, b0, [.i w, .l K], ?_, B0, l0, i0⟩
    show jpa_L2_step (((d + 1 : Nat) : Int), 0, b, rows) = some (.inl ((d : Int), e0, b0, rows ++ [[.i w, .l K]]))
    simp only [jpa_L2_step, jpa_c20883189, jpa_c47053767, jpa_c47249889, jpa_c4755454, jpa_c50623285, jpa_c5883654, jpa_c60236699, jpa_c65951607, jpa_c73035710, jpa_c73656058, jpa_c80005064, jpa_c83617453, cond_dec q1, r0, s0, Option.isSome_some, cond_true, w1, beq_self_eq_true]
    exact ob_step (by simp only [List.length_cons, List.length_nil]; omega) rfl)
theorem ts_f : ∀ (s : List (List Ct)) b rows t fuel, s.length < 256 → s.length < fuel → rows.length + s.length ≤ 300 → Byt (col b) → (∀ r ∈ s, VT r) → col b = s.flatMap eT ++ t → ∃ b', iter jpa_L2_step fuel (mk4 (s.length : Int) 0 b rows) = some (mk4 0 0 b' (rows ++ s)) ∧ Byt (col b') ∧ col b' = t :=
  f_loop (step := jpa_L2_step) mk4 eT VT (fun e b rows => by
    show jpa_L2_step (0, e, b, rows) = some (.inr (0, e, b, rows))
    simp only [jpa_L2_step]
    rw [cond_not (by omega)]) (fun d b rows r t hd hl hB hV hc => by
    have q1 : ((d + 1 : Nat) : Int) > 0 := by omega
    have w1 : IntKind.i64.wrap (((d + 1 : Nat) : Int) - 1) = (d : Int) := by rw [wrap_in (by omega) (by omega)]; omega
    obtain ⟨w, K, b0, rfl, ⟨r0, s0⟩, B0, c0⟩ := tr_f hB hV hc
    refine ⟨b0, ?_, B0, c0⟩
    show jpa_L2_step (((d + 1 : Nat) : Int), 0, b, rows) = some (.inl ((d : Int), 0, b0, rows ++ [[.i w, .l K]]))
    simp only [jpa_L2_step, jpa_c20883189, jpa_c47053767, jpa_c47249889, jpa_c4755454, jpa_c50623285, jpa_c5883654, jpa_c60236699, jpa_c65951607, jpa_c73035710, jpa_c73656058, jpa_c80005064, jpa_c83617453, cond_dec q1, r0, s0, Option.isSome_some, cond_true, w1, beq_self_eq_true]
    exact ob_step (by simp only [List.length_cons, List.length_nil]; omega) rfl)
theorem ss_t : ∀ (d : Nat) e b rows fuel, d < 256 → d < fuel → rows.length + d ≤ 300 → Byt (col b) → ∃ k e' b' s, iter jpa_L6_step fuel (mk4 (d : Int) e b rows) = some (mk4 k e' b' (rows ++ s)) ∧ Byt (col b') ∧ b'.length ≤ b.length ∧ s.length ≤ d ∧ (e' = 0 → e = 0 ∧ s.length = d ∧ (∀ r ∈ s, VS r) ∧ col b = s.flatMap eS ++ col b') :=
  t_loop (step := jpa_L6_step) mk4 eS VS (fun e b rows => by
    show jpa_L6_step (0, e, b, rows) = some (.inr (0, e, b, rows))
    simp only [jpa_L6_step]
    rw [cond_not (by omega)]) (fun d e b rows he hd => by
    have q1 : ((d + 1 : Nat) : Int) > 0 := by omega
    have b1 : (e == 0) = false := by simpa using he
    show jpa_L6_step (((d + 1 : Nat) : Int), e, b, rows) = some (.inr (((d + 1 : Nat) : Int), e, b, rows))
    simp only [jpa_L6_step, cond_dec q1, b1, cond_false]) (fun d b rows hd hl hB => by
    have q1 : ((d + 1 : Nat) : Int) > 0 := by omega
    have w1 : IntKind.i64.wrap (((d + 1 : Nat) : Int) - 1) = (d : Int) := by rw [wrap_in (by omega) (by omega)]; omega
    obtain ⟨a0, a1, a2, a3, a4, a5, a6, a7, a8, a9, a10, a11, a12, e0, b0, ⟨r0, s0⟩, B0, l0, i0⟩ := sh_t hB
    refine ⟨e0, b0, [.i a0, .i a1, .i a2, .i a3, .i a4, .i a5, .i a6, .i a7, .i a8, .i a9, .i a10, .i a11, .i a12], ?_, B0, l0, i0⟩
    show jpa_L6_step (((d + 1 : Nat) : Int), 0, b, rows) = some (.inl ((d : Int), e0, b0, rows ++ [[.i a0, .i a1, .i a2, .i a3, .i a4, .i a5, .i a6, .i a7, .i a8, .i a9, .i a10, .i a11, .i a12]]))
    simp only [jpa_L6_step, jpa_c20883189, jpa_c47053767, jpa_c47249889, jpa_c4755454, jpa_c50623285, jpa_c5883654, jpa_c60236699, jpa_c65951607, jpa_c73035710, jpa_c73656058, jpa_c80005064, jpa_c83617453, cond_dec q1, r0, s0, Option.isSome_some, cond_true, w1, beq_self_eq_true]
    exact ob_step (by simp only [List.length_cons, List.length_nil]; omega) rfl)
theorem ss_f : ∀ (s : List (List Ct)) b rows t fuel, s.length < 256 → s.length < fuel → rows.length + s.length ≤ 300 → Byt (col b) → (∀ r ∈ s, VS r) → col b = s.flatMap eS ++ t → ∃ b', iter jpa_L6_step fuel (mk4 (s.length : Int) 0 b rows) = some (mk4 0 0 b' (rows ++ s)) ∧ Byt (col b') ∧ col b' = t :=
  f_loop (step := jpa_L6_step) mk4 eS VS (fun e b rows => by
    show jpa_L6_step (0, e, b, rows) = some (.inr (0, e, b, rows))
    simp only [jpa_L6_step]
    rw [cond_not (by omega)]) (fun d b rows r t hd hl hB hV hc => by
    have q1 : ((d + 1 : Nat) : Int) > 0 := by omega
    have w1 : IntKind.i64.wrap (((d + 1 : Nat) : Int) - 1) = (d : Int) := by rw [wrap_in (by omega) (by omega)]; omega
    obtain ⟨a0, a1, a2, a3, a4, a5, a6, a7, a8, a9, a10, a11, a12, b0, rfl, ⟨r0, s0⟩, B0, c0⟩ := sh_f hB hV hc
    refine ⟨b0, ?_, B0, c0⟩
    show jpa_L6_step (((d + 1 : Nat) : Int), 0, b, rows) = some (.inl ((d : Int), 0, b0, rows ++ [[.i a0, .i a1, .i a2, .i a3, .i a4, .i a5, .i a6, .i a7, .i a8, .i a9, .i a10, .i a11, .i a12]]))
    simp only [jpa_L6_step, jpa_c20883189, jpa_c47053767, jpa_c47249889, jpa_c4755454, jpa_c50623285, jpa_c5883654, jpa_c60236699, jpa_c65951607, jpa_c73035710, jpa_c73656058, jpa_c80005064, jpa_c83617453, cond_dec q1, r0, s0, Option.isSome_some, cond_true, w1, beq_self_eq_true]
    exact ob_step (by simp only [List.length_cons, List.length_nil]; omega) rfl)
end Go.Proofs.Ytcpbiijegbbafaa

/- Parse: what it answers, whatever the bytes are; what was laid is parsed. No condition. -/
set_option linter.unusedVariables false
set_option linter.unusedSimpArgs false
namespace Go.Proofs.Ytcpbiijegbbafaa
open Go.RowKit

/-- A scene that may be laid. -/
structure VSc (x0 x1 x2 x3 x4 x5 x6 x7 x8 x9 x10 x11 x12 : Int) (P T J S : List (List Ct)) : Prop where
  hd : VHd x0 x1 x2 x3 x4 x5 x6 x7 x8 x9 x10 x11 x12
  p : ∀ r ∈ P, VP r
  t : ∀ r ∈ T, VT r
  j : ∀ r ∈ J, VJ r
  s : ∀ r ∈ S, VS r
  pl : P.length ≤ 32
  tl : T.length ≤ 32
  jl : J.length ≤ 32
  sl : S.length ≤ 128
theorem VSc.chk {x0 x1 x2 x3 x4 x5 x6 x7 x8 x9 x10 x11 x12 : Int} {P T J S : List (List Ct)} (h : VSc x0 x1 x2 x3 x4 x5 x6 x7 x8 x9 x10 x11 x12 P T J S) : (sch_res x0 x1 x2 x3 x4 x5 x7 x8 x9 x10 x11 x12 P T J S).isSome = true := by
  have hp := h.pl; have ht := h.tl; have hj := h.jl; have hs := h.sl
  obtain ⟨c1, c2, c3⟩ := check_ok (x0 := x0) (x1 := x1) (x2 := x2) (x3 := x3) (x4 := x4) (x5 := x5) (x7 := x7) (x8 := x8) (x9 := x9) (x10 := x10) (x11 := x11) (x12 := x12) (P := P) (T := T) (J := J) (S := S) (by omega) (by omega) (by omega) (by omega)
  rw [cP_of h.p, cT_of h.t, cJ_of h.j, cS_of h.s] at c1
  exact c1
theorem VSc.canon {x0 x1 x2 x3 x4 x5 x6 x7 x8 x9 x10 x11 x12 : Int} {P T J S : List (List Ct)} (h : VSc x0 x1 x2 x3 x4 x5 x6 x7 x8 x9 x10 x11 x12 P T J S) : cP P = P ∧ cT T = T ∧ cJ J = J ∧ cS S = S := ⟨cP_of h.p, cT_of h.t, cJ_of h.j, cS_of h.s⟩
theorem parse_t {B : List (List Ct)} (hB : Byt (col B)) :
    ∃ x0 x1 x2 x3 x4 x5 x6 x7 x8 x9 x10 x11 x12 err P T J S, (jpa_res B = some (x0, x1, x2, x3, x4, x5, x6, x7, x8, x9, x10, x11, x12, err, P, T, J, S) ∧ jpa_v B = (x0, x1, x2, x3, x4, x5, x6, x7, x8, x9, x10, x11, x12, err, P, T, J, S)) ∧ ((err ≠ 0 ∧ x0 = 0 ∧ T = [] ∧ S = []) ∨ (err = 0 ∧ VSc x0 x1 x2 x3 x4 x5 x6 x7 x8 x9 x10 x11 x12 P T J S ∧ (sch_v x0 x1 x2 x3 x4 x5 x7 x8 x9 x10 x11 x12 P T J S).1 = 0 ∧ col B = bScene x0 x1 x2 x3 x4 x5 x6 x7 x8 x9 x10 x11 x12 P T J S)) := by
  have fin : ∀ x, jpa_res B = some x → (jpa_res B = some x ∧ jpa_v B = x) := fun x h1 => ⟨h1, by unfold jpa_v; rw [h1]; rfl⟩
  have bad : ∀ e : Int, e ≠ 0 → jpa_res B = some (0, 0, 0, 0, 0, 0, 0, 0, 0, 0, 0, 0, 0, e, [], [], [], []) → ∃ x0 x1 x2 x3 x4 x5 x6 x7 x8 x9 x10 x11 x12 err P T J S, (jpa_res B = some (x0, x1, x2, x3, x4, x5, x6, x7, x8, x9, x10, x11, x12, err, P, T, J, S) ∧ jpa_v B = (x0, x1, x2, x3, x4, x5, x6, x7, x8, x9, x10, x11, x12, err, P, T, J, S)) ∧ ((err ≠ 0 ∧ x0 = 0 ∧ T = [] ∧ S = []) ∨ (err = 0 ∧ VSc x0 x1 x2 x3 x4 x5 x6 x7 x8 x9 x10 x11 x12 P T J S ∧ (sch_v x0 x1 x2 x3 x4 x5 x7 x8 x9 x10 x11 x12 P T J S).1 = 0 ∧ col B = bScene x0 x1 x2 x3 x4 x5 x6 x7 x8 x9 x10 x11 x12 P T J S)) := fun e he h1 =>
    ⟨0, 0, 0, 0, 0, 0, 0, 0, 0, 0, 0, 0, 0, e, [], [], [], [], fin _ h1, .inl ⟨he, rfl, rfl, rfl⟩⟩
  by_cases hl' : (B.length : Int) > 65536
  · exact bad 8 (by omega) (by unfold jpa_res; rw [cond_dec hl'])
  have q0 : rrd_res B = some ([] ++ B) := by unfold rrd_res; exact ob_step (by omega) rfl
  have q1 : rrd_v B = [] ++ B := by unfold rrd_v; rw [q0]; rfl
  have hB' : Byt (col ([] ++ B)) := hB
  obtain ⟨e1, b1, ⟨hmg, hmg2⟩, B1, l1, i1⟩ := mg_t 0 hB'
  obtain ⟨x0, x1, x2, x3, x4, x5, x6, x7, x8, x9, x10, x11, x12, e2, b2, ⟨hh1, hh2⟩, B2, l2, i2⟩ := hd_t e1 B1
  obtain ⟨y0, e3, b3, ⟨r0, s0⟩, B3, l3, y00, i3⟩ := mn_t e2 B2 32 22 (by omega) (by omega)
  obtain ⟨y1, e4, b4, ⟨r1, s1⟩, B4, l4, y10, i4⟩ := mn_t e3 B3 32 23 (by omega) (by omega)
  obtain ⟨y2, e5, b5, ⟨r2, s2⟩, B5, l5, y20, i5⟩ := mn_t e4 B4 32 24 (by omega) (by omega)
  obtain ⟨y3, e6, b6, ⟨r3, s3⟩, B6, l6, y30, i6⟩ := mn_t e5 B5 128 25 (by omega) (by omega)
  obtain ⟨z0, rfl⟩ := Int.eq_ofNat_of_zero_le y00.1
  obtain ⟨z1, rfl⟩ := Int.eq_ofNat_of_zero_le y10.1
  obtain ⟨z2, rfl⟩ := Int.eq_ofNat_of_zero_le y20.1
  obtain ⟨z3, rfl⟩ := Int.eq_ofNat_of_zero_le y30.1
  obtain ⟨k7, e7, b7, P, g7, B7, l7, n7, i7⟩ := ps_t z0 e6 b6 [] 300 (by omega) (by omega) (by simp only [List.length_nil]; omega) B6
  obtain ⟨k8, e8, b8, T, g8, B8, l8, n8, i8⟩ := ts_t z1 e7 b7 [] 300 (by omega) (by omega) (by simp only [List.length_nil]; omega) B7
  obtain ⟨k9, e9, b9, J, g9, B9, l9, n9, i9⟩ := js_t z2 e8 b8 [] 300 (by omega) (by omega) (by simp only [List.length_nil]; omega) B8
  obtain ⟨k10, e, b, S, g10, B10, l10, n10, i10⟩ := ss_t z3 e9 b9 [] 300 (by omega) (by omega) (by simp only [List.length_nil]; omega) B9
  rw [List.nil_append] at g7 g8 g9 g10
  have jp0 : jpa_L0_p B = true := by simp only [jpa_L0_p, jpa_c20883189, jpa_c47053767, jpa_c47249889, jpa_c4755454, jpa_c50623285, jpa_c5883654, jpa_c60236699, jpa_c65951607, jpa_c73035710, jpa_c73656058, jpa_c80005064, jpa_c83617453, q1, hmg2, hh2, s0, s1, s2, s3]; exact congrArg Option.isSome g7
  have jv0 : jpa_L0_v B = (k7, e7, b7, P) := by simp only [jpa_L0_v, loopRes, jpa_c20883189, jpa_c47053767, jpa_c47249889, jpa_c4755454, jpa_c50623285, jpa_c5883654, jpa_c60236699, jpa_c65951607, jpa_c73035710, jpa_c73656058, jpa_c80005064, jpa_c83617453, q1, hmg2, hh2, s0, s1, s2, s3]; exact congrArg (fun o : Option (Int × Int × List (List Ct) × List (List Ct)) => o.getD default) g7
  have jp2 : jpa_L2_p B = true := by simp only [jpa_L2_p, jpa_c20883189, jpa_c47053767, jpa_c47249889, jpa_c4755454, jpa_c50623285, jpa_c5883654, jpa_c60236699, jpa_c65951607, jpa_c73035710, jpa_c73656058, jpa_c80005064, jpa_c83617453, q1, hmg2, hh2, s0, s1, s2, s3, jv0]; exact congrArg Option.isSome g8
  have jv2 : jpa_L2_v B = (k8, e8, b8, T) := by simp only [jpa_L2_v, loopRes, jpa_c20883189, jpa_c47053767, jpa_c47249889, jpa_c4755454, jpa_c50623285, jpa_c5883654, jpa_c60236699, jpa_c65951607, jpa_c73035710, jpa_c73656058, jpa_c80005064, jpa_c83617453, q1, hmg2, hh2, s0, s1, s2, s3, jv0]; exact congrArg (fun o : Option (Int × Int × List (List Ct) × List (List Ct)) => o.getD default) g8
  have jp4 : jpa_L4_p B = true := by simp only [jpa_L4_p, jpa_c20883189, jpa_c47053767, jpa_c47249889, jpa_c4755454, jpa_c50623285, jpa_c5883654, jpa_c60236699, jpa_c65951607, jpa_c73035710, jpa_c73656058, jpa_c80005064, jpa_c83617453, q1, hmg2, hh2, s0, s1, s2, s3, jv2]; exact congrArg Option.isSome g9
  have jv4 : jpa_L4_v B = (k9, e9, b9, J) := by simp only [jpa_L4_v, loopRes, jpa_c20883189, jpa_c47053767, jpa_c47249889, jpa_c4755454, jpa_c50623285, jpa_c5883654, jpa_c60236699, jpa_c65951607, jpa_c73035710, jpa_c73656058, jpa_c80005064, jpa_c83617453, q1, hmg2, hh2, s0, s1, s2, s3, jv2]; exact congrArg (fun o : Option (Int × Int × List (List Ct) × List (List Ct)) => o.getD default) g9
  have jp6 : jpa_L6_p B = true := by simp only [jpa_L6_p, jpa_c20883189, jpa_c47053767, jpa_c47249889, jpa_c4755454, jpa_c50623285, jpa_c5883654, jpa_c60236699, jpa_c65951607, jpa_c73035710, jpa_c73656058, jpa_c80005064, jpa_c83617453, q1, hmg2, hh2, s0, s1, s2, s3, jv4]; exact congrArg Option.isSome g10
  have jv6 : jpa_L6_v B = (k10, e, b, S) := by simp only [jpa_L6_v, loopRes, jpa_c20883189, jpa_c47053767, jpa_c47249889, jpa_c4755454, jpa_c50623285, jpa_c5883654, jpa_c60236699, jpa_c65951607, jpa_c73035710, jpa_c73656058, jpa_c80005064, jpa_c83617453, q1, hmg2, hh2, s0, s1, s2, s3, jv4]; exact congrArg (fun o : Option (Int × Int × List (List Ct) × List (List Ct)) => o.getD default) g10
  by_cases he : e = 0
  · subst he
    by_cases hg : (b.length : Int) > 0
    · refine bad 10 (by omega) ?_
      unfold jpa_res
      simp only [jpa_c20883189, jpa_c47053767, jpa_c47249889, jpa_c4755454, jpa_c50623285, jpa_c5883654, jpa_c60236699, jpa_c65951607, jpa_c73035710, jpa_c73656058, jpa_c80005064, jpa_c83617453, cond_not hl', q0, q1, hmg, hmg2, hh1, hh2, r0, s0, r1, s1, r2, s2, r3, s3, jp0, jv0, jp2, jv2, jp4, jv4, jp6, jv6, cond_dec hg, Option.isSome_some, cond_true, beq_self_eq_true]
    · have hb : b = [] := by
        cases b with
        | nil => rfl
        | cons x y => simp only [List.length_cons] at hg; omega
      subst hb
      obtain ⟨h9, m10, v10, c10⟩ := i10 rfl
      obtain ⟨h8, m9, v9, c9⟩ := i9 h9
      obtain ⟨h7, m8, v8, c8⟩ := i8 h8
      obtain ⟨h6, m7, v7, c7⟩ := i7 h7
      obtain ⟨h5, w3, c6⟩ := i6 h6
      obtain ⟨h4, w2, c5⟩ := i5 h5
      obtain ⟨h3, w1, c4⟩ := i4 h4
      obtain ⟨h2, w0, c3⟩ := i3 h3
      obtain ⟨h1, vh, c2⟩ := i2 h2
      obtain ⟨_, c1⟩ := i1 h1
      have hS : VSc x0 x1 x2 x3 x4 x5 x6 x7 x8 x9 x10 x11 x12 P T J S := ⟨vh, v7, v8, v9, v10, by omega, by omega, by omega, by omega⟩
      have hcol : col B = bScene x0 x1 x2 x3 x4 x5 x6 x7 x8 x9 x10 x11 x12 P T J S := by
        have c0 : col B = col ([] ++ B) := rfl
        rw [c0, c1, c2, c3, c4, c5, c6, c7, c8, c9, c10, ← m7, ← m8, ← m9, ← m10]
        simp only [bScene, bN, catP, catT, catJ, catS, List.append_assoc, col_nil, List.append_nil]
      have hch := hS.chk
      by_cases hz : (sch_v x0 x1 x2 x3 x4 x5 x7 x8 x9 x10 x11 x12 P T J S).1 = 0
      · exact ⟨x0, x1, x2, x3, x4, x5, x6, x7, x8, x9, x10, x11, x12, 0, P, T, J, S, fin _ (by
          unfold jpa_res
          simp only [jpa_c20883189, jpa_c47053767, jpa_c47249889, jpa_c4755454, jpa_c50623285, jpa_c5883654, jpa_c60236699, jpa_c65951607, jpa_c73035710, jpa_c73656058, jpa_c80005064, jpa_c83617453, cond_not hl', q0, q1, hmg, hmg2, hh1, hh2, r0, s0, r1, s1, r2, s2, r3, s3, jp0, jv0, jp2, jv2, jp4, jv4, jp6, jv6, cond_not hg, hch, hz, Option.isSome_some, cond_true, bne_self_eq_false, cond_false]), .inr ⟨rfl, hS, hz, hcol⟩⟩
      · have hzb : ((sch_v x0 x1 x2 x3 x4 x5 x7 x8 x9 x10 x11 x12 P T J S).1 != 0) = true := by simpa using hz
        refine bad _ hz ?_
        unfold jpa_res
        simp only [jpa_c20883189, jpa_c47053767, jpa_c47249889, jpa_c4755454, jpa_c50623285, jpa_c5883654, jpa_c60236699, jpa_c65951607, jpa_c73035710, jpa_c73656058, jpa_c80005064, jpa_c83617453, cond_not hl', q0, q1, hmg, hmg2, hh1, hh2, r0, s0, r1, s1, r2, s2, r3, s3, jp0, jv0, jp2, jv2, jp4, jv4, jp6, jv6, cond_not hg, hch, hzb, Option.isSome_some, cond_true, bne_self_eq_false, cond_false]
  · have b1' : (e == 0) = false := by simpa using he
    have b2' : (e != 0) = true := by simpa using he
    refine bad e he ?_
    by_cases hg : (b.length : Int) > 0
    · unfold jpa_res
      simp only [jpa_c20883189, jpa_c47053767, jpa_c47249889, jpa_c4755454, jpa_c50623285, jpa_c5883654, jpa_c60236699, jpa_c65951607, jpa_c73035710, jpa_c73656058, jpa_c80005064, jpa_c83617453, cond_not hl', q0, q1, hmg, hmg2, hh1, hh2, r0, s0, r1, s1, r2, s2, r3, s3, jp0, jv0, jp2, jv2, jp4, jv4, jp6, jv6, cond_dec hg, b1', b2', Option.isSome_some, cond_true, cond_false]
    · unfold jpa_res
      simp only [jpa_c20883189, jpa_c47053767, jpa_c47249889, jpa_c4755454, jpa_c50623285, jpa_c5883654, jpa_c60236699, jpa_c65951607, jpa_c73035710, jpa_c73656058, jpa_c80005064, jpa_c83617453, cond_not hl', q0, q1, hmg, hmg2, hh1, hh2, r0, s0, r1, s1, r2, s2, r3, s3, jp0, jv0, jp2, jv2, jp4, jv4, jp6, jv6, cond_not hg, b1', b2', Option.isSome_some, cond_true, cond_false]
theorem parse_f {B : List (List Ct)} {x0 x1 x2 x3 x4 x5 x6 x7 x8 x9 x10 x11 x12 : Int} {P T J S : List (List Ct)} (hB : Byt (col B)) (hl : B.length ≤ 65536) (hS : VSc x0 x1 x2 x3 x4 x5 x6 x7 x8 x9 x10 x11 x12 P T J S) (hz : (sch_v x0 x1 x2 x3 x4 x5 x7 x8 x9 x10 x11 x12 P T J S).1 = 0) (hc : col B = bScene x0 x1 x2 x3 x4 x5 x6 x7 x8 x9 x10 x11 x12 P T J S) :
    jpa_res B = some (x0, x1, x2, x3, x4, x5, x6, x7, x8, x9, x10, x11, x12, 0, P, T, J, S) ∧ jpa_v B = (x0, x1, x2, x3, x4, x5, x6, x7, x8, x9, x10, x11, x12, 0, P, T, J, S) := by
  have hl' : ¬ (B.length : Int) > 65536 := by omega
  have q0 : rrd_res B = some ([] ++ B) := by unfold rrd_res; exact ob_step (by omega) rfl
  have q1 : rrd_v B = [] ++ B := by unfold rrd_v; rw [q0]; rfl
  have hB' : Byt (col ([] ++ B)) := hB
  have hpl := hS.pl; have htl := hS.tl; have hjl := hS.jl; have hsl := hS.sl
  have c0 : col ([] ++ B) = bScene x0 x1 x2 x3 x4 x5 x6 x7 x8 x9 x10 x11 x12 P T J S := hc
  simp only [bScene, bN, catP, catT, catJ, catS, List.append_assoc] at c0
  obtain ⟨b1, ⟨hmg, hmg2⟩, B1, c1⟩ := mg_f hB' c0
  obtain ⟨b2, ⟨hh1, hh2⟩, B2, c2⟩ := hd_f B1 hS.hd c1
  obtain ⟨b3, ⟨r0, s0⟩, B3, c3⟩ := mn_f B2 32 22 (by omega) (by omega) c2
  obtain ⟨b4, ⟨r1, s1⟩, B4, c4⟩ := mn_f B3 32 23 (by omega) (by omega) c3
  obtain ⟨b5, ⟨r2, s2⟩, B5, c5⟩ := mn_f B4 32 24 (by omega) (by omega) c4
  obtain ⟨b6, ⟨r3, s3⟩, B6, c6⟩ := mn_f B5 128 25 (by omega) (by omega) c5
  obtain ⟨b7, g7, B7, c7⟩ := ps_f P b6 [] _ 300 (by omega) (by omega) (by simp only [List.length_nil]; omega) B6 hS.p c6
  obtain ⟨b8, g8, B8, c8⟩ := ts_f T b7 [] _ 300 (by omega) (by omega) (by simp only [List.length_nil]; omega) B7 hS.t c7
  obtain ⟨b9, g9, B9, c9⟩ := js_f J b8 [] _ 300 (by omega) (by omega) (by simp only [List.length_nil]; omega) B8 hS.j c8
  obtain ⟨b, g10, B10, c10⟩ := ss_f S b9 [] [] 300 (by omega) (by omega) (by simp only [List.length_nil]; omega) B9 hS.s (by rw [List.append_nil]; exact c9)
  rw [List.nil_append] at g7 g8 g9 g10
  have jp0 : jpa_L0_p B = true := by simp only [jpa_L0_p, jpa_c20883189, jpa_c47053767, jpa_c47249889, jpa_c4755454, jpa_c50623285, jpa_c5883654, jpa_c60236699, jpa_c65951607, jpa_c73035710, jpa_c73656058, jpa_c80005064, jpa_c83617453, q1, hmg2, hh2, s0, s1, s2, s3]; exact congrArg Option.isSome g7
  have jv0 : jpa_L0_v B = (0, 0, b7, P) := by simp only [jpa_L0_v, loopRes, jpa_c20883189, jpa_c47053767, jpa_c47249889, jpa_c4755454, jpa_c50623285, jpa_c5883654, jpa_c60236699, jpa_c65951607, jpa_c73035710, jpa_c73656058, jpa_c80005064, jpa_c83617453, q1, hmg2, hh2, s0, s1, s2, s3]; exact congrArg (fun o : Option (Int × Int × List (List Ct) × List (List Ct)) => o.getD default) g7
  have jp2 : jpa_L2_p B = true := by simp only [jpa_L2_p, jpa_c20883189, jpa_c47053767, jpa_c47249889, jpa_c4755454, jpa_c50623285, jpa_c5883654, jpa_c60236699, jpa_c65951607, jpa_c73035710, jpa_c73656058, jpa_c80005064, jpa_c83617453, q1, hmg2, hh2, s0, s1, s2, s3, jv0]; exact congrArg Option.isSome g8
  have jv2 : jpa_L2_v B = (0, 0, b8, T) := by simp only [jpa_L2_v, loopRes, jpa_c20883189, jpa_c47053767, jpa_c47249889, jpa_c4755454, jpa_c50623285, jpa_c5883654, jpa_c60236699, jpa_c65951607, jpa_c73035710, jpa_c73656058, jpa_c80005064, jpa_c83617453, q1, hmg2, hh2, s0, s1, s2, s3, jv0]; exact congrArg (fun o : Option (Int × Int × List (List Ct) × List (List Ct)) => o.getD default) g8
  have jp4 : jpa_L4_p B = true := by simp only [jpa_L4_p, jpa_c20883189, jpa_c47053767, jpa_c47249889, jpa_c4755454, jpa_c50623285, jpa_c5883654, jpa_c60236699, jpa_c65951607, jpa_c73035710, jpa_c73656058, jpa_c80005064, jpa_c83617453, q1, hmg2, hh2, s0, s1, s2, s3, jv2]; exact congrArg Option.isSome g9
  have jv4 : jpa_L4_v B = (0, 0, b9, J) := by simp only [jpa_L4_v, loopRes, jpa_c20883189, jpa_c47053767, jpa_c47249889, jpa_c4755454, jpa_c50623285, jpa_c5883654, jpa_c60236699, jpa_c65951607, jpa_c73035710, jpa_c73656058, jpa_c80005064, jpa_c83617453, q1, hmg2, hh2, s0, s1, s2, s3, jv2]; exact congrArg (fun o : Option (Int × Int × List (List Ct) × List (List Ct)) => o.getD default) g9
  have jp6 : jpa_L6_p B = true := by simp only [jpa_L6_p, jpa_c20883189, jpa_c47053767, jpa_c47249889, jpa_c4755454, jpa_c50623285, jpa_c5883654, jpa_c60236699, jpa_c65951607, jpa_c73035710, jpa_c73656058, jpa_c80005064, jpa_c83617453, q1, hmg2, hh2, s0, s1, s2, s3, jv4]; exact congrArg Option.isSome g10
  have jv6 : jpa_L6_v B = (0, 0, b, S) := by simp only [jpa_L6_v, loopRes, jpa_c20883189, jpa_c47053767, jpa_c47249889, jpa_c4755454, jpa_c50623285, jpa_c5883654, jpa_c60236699, jpa_c65951607, jpa_c73035710, jpa_c73656058, jpa_c80005064, jpa_c83617453, q1, hmg2, hh2, s0, s1, s2, s3, jv4]; exact congrArg (fun o : Option (Int × Int × List (List Ct) × List (List Ct)) => o.getD default) g10
  have hbl : b.length = 0 := by have := congrArg List.length c10; rw [col_length] at this; exact this
  have hg : ¬ (b.length : Int) > 0 := by omega
  have hch := hS.chk
  have h : jpa_res B = some (x0, x1, x2, x3, x4, x5, x6, x7, x8, x9, x10, x11, x12, 0, P, T, J, S) := by
    unfold jpa_res
    simp only [jpa_c20883189, jpa_c47053767, jpa_c47249889, jpa_c4755454, jpa_c50623285, jpa_c5883654, jpa_c60236699, jpa_c65951607, jpa_c73035710, jpa_c73656058, jpa_c80005064, jpa_c83617453, cond_not hl', q0, q1, hmg, hmg2, hh1, hh2, r0, s0, r1, s1, r2, s2, r3, s3, jp0, jv0, jp2, jv2, jp4, jv4, jp6, jv6, cond_not hg, hch, hz, Option.isSome_some, cond_true, bne_self_eq_false, cond_false]
  exact ⟨h, by unfold jpa_v; rw [h]; rfl⟩
end Go.Proofs.Ytcpbiijegbbafaa
