/- The law ReelBack: it answers true for all values. No condition. -/
import Derived.Test.YtidhjgcegcfmeaaReader
import Derived.Test.YtidhjgcegcfmeaaReelBackT
import Derived.Test.YtidhjgcegcfmeaaOpen
set_option linter.unusedVariables false
set_option linter.unusedSimpArgs false
namespace Go.Proofs.Ytidhjgcegcfmeaa
open Go.RowKit

theorem fitsB_it {x0 : List (List Ct)} (hb : x0.length ≤ 9223372036854775807) : ∀ (d i : Nat), i + d = x0.length → ∃ r, iter (fits_L0_step x0) (d + 1) (i : Int) = some r ∧ (∀ v, r = .inl v → ∀ j, i ≤ j → j < x0.length → (rd x0 j 37).rows.length ≤ 3000) := by
  intro d
  induction d with
  | zero =>
    intro i hi
    have q : ¬ ((i : Int) < (x0.length : Int)) := by omega
    exact ⟨.inl i, iter_inr (by simp only [fits_L0_step, cond_not q]), fun v _ j h1 h2 => by omega⟩
  | succ d ih =>
    intro i hi
    have q : ((i : Int) < (x0.length : Int)) := by omega
    have q2 : ((0 : Int) ≤ (i : Int) ∧ (i : Int) < (x0.length : Int)) := by omega
    have w : IntKind.i64.wrap ((i : Int) + 1) = ((i + 1 : Nat) : Int) := by rw [wrap_in (by omega) (by omega)]; omega
    by_cases h : ((rd x0 i 37).rows.length : Int) > 3000
    · refine ⟨.inr (), iter_inr ?_, fun v h => by cases h⟩
      simp only [fits_L0_step, cond_dec q, cond_dec q2, Int.toNat_natCast, cond_dec h]
    · have hst : fits_L0_step x0 (i : Int) = some (.inl ((i + 1 : Nat) : Int)) := by
        simp only [fits_L0_step, cond_dec q, cond_dec q2, Int.toNat_natCast, cond_not h, w]
      obtain ⟨r, h1, h2⟩ := ih (i + 1) (by omega)
      refine ⟨r, by rw [iter_inl hst]; exact h1, fun v hv j h3 h4 => ?_⟩
      by_cases hj : j = i
      · subst hj; omega
      · exact h2 v hv j (by omega) h4
theorem fitsB_is {x0 : List (List Ct)} (hb : x0.length ≤ 9223372036854775807) : (fits_res x0).isSome = true ∧ (fits_v x0 = true → x0.length ≤ 60 ∧ ∀ j, j < x0.length → (rd x0 j 37).rows.length ≤ 3000) := by
  obtain ⟨r, h1, h2⟩ := fitsB_it hb x0.length 0 (by omega)
  have e : ((0 : Nat) : Int) = (0 : Int) := rfl
  rw [e] at h1
  have p1 : fits_L0_p x0 = true := by unfold fits_L0_p; rw [h1]; rfl
  have p2 : fits_L0_v x0 = r := by unfold fits_L0_v; rw [h1]; rfl
  have hv : fits_v x0 = (fits_res x0).getD default := rfl
  cases r with
  | inl v =>
    have hr : fits_res x0 = some (decide ((x0.length : Int) ≤ 60)) := by unfold fits_res; rw [p1, p2]; rfl
    rw [hv, hr]
    refine ⟨rfl, fun h => ⟨?_, fun j hj => h2 v rfl j (by omega) hj⟩⟩
    have : (x0.length : Int) ≤ 60 := of_decide_eq_true h
    omega
  | inr u =>
    have hr : fits_res x0 = some false := by unfold fits_res; rw [p1, p2]; rfl
    rw [hv, hr]
    exact ⟨rfl, fun h => by cases h⟩

/-! What is held -/
theorem held_val {x : Int} (h0 : -2147483648 ≤ x) (h1 : x ≤ 2147483648) : heldR_v x = x := by
  unfold heldR_v
  rw [cond_not (by omega), cond_not (by omega)]
theorem held_range (x : Int) : -2147483648 ≤ heldR_v x ∧ heldR_v x ≤ 2147483648 := by
  unfold heldR_v
  by_cases h0 : x > 2147483648
  · rw [cond_dec h0]; omega
  · rw [cond_not h0]
    by_cases h1 : x < -2147483648
    · rw [cond_dec h1]; omega
    · rw [cond_not h1]; omega
theorem upd_get {w off j : Nat} {cts r : List Ct} (hj : j < w) : (updRow w off cts r).getD j (.i 0) = if off ≤ j ∧ j < off + cts.length then cts.getD (j - off) (.i 0) else r.getD j (.i 0) := by
  unfold updRow
  simp only [List.getD_eq_getElem?_getD, List.getElem?_map, List.getElem?_range hj, Option.map_some, Option.getD_some]
  by_cases h : off ≤ j ∧ j < off + cts.length
  · rw [if_pos h, show Nat.ble off j = true from Nat.ble_eq_true_of_le h.1, show Nat.blt j (off + cts.length) = true from Nat.ble_eq_true_of_le h.2]; rfl
  · rw [if_neg h]
    have : (Nat.ble off j && Nat.blt j (off + cts.length)) = false := by
      rw [Bool.eq_false_iff]
      intro hb
      rw [Bool.and_eq_true] at hb
      exact h ⟨Nat.le_of_ble_eq_true hb.1, Nat.le_of_ble_eq_true hb.2⟩
    rw [this]; rfl
theorem set_rd {l : List (List Ct)} {k i j : Nat} {r : List Ct} (hk : k < l.length) : rd (l.set k r) i j = if i = k then r.getD j (.i 0) else rd l i j := by
  unfold rd
  by_cases h : i = k
  · subst h; rw [if_pos rfl]; simp [List.getD_eq_getElem?_getD, hk]
  · rw [if_neg h]; simp [List.getD_eq_getElem?_getD, List.getElem?_set_ne (Ne.symm h)]
theorem set_getD {l : List (List Ct)} {k : Nat} {r : List Ct} (hk : k < l.length) : (l.set k r).getD k [] = r := by simp [List.getD_eq_getElem?_getD, hk]
/-- A row, held. -/
def HeldRow (r r0 : List Ct) : Prop := ∀ j, j < 39 → r.getD j (.i 0) = if 1 ≤ j ∧ j < 5 then .i (heldR_v (r0.getD j (.i 0)).int) else r0.getD j (.i 0)
theorem lrb0_step {x0 vl : List (List Ct)} {k : Nat} (hx : x0.length ≤ 60) (hl : vl.length = x0.length) (hk : k < x0.length) : ∃ r, lrb_L0_step x0 ((k : Int), vl) = some (.inl (((k + 1 : Nat) : Int), vl.set k r)) ∧ HeldRow r (vl.getD k []) := by
  have q0 : ((k : Int) < (([] ++ x0 : List (List Ct)).length : Int)) := by simp; omega
  have q : ∀ l : List (List Ct), l.length = vl.length → ((0 : Int) ≤ (k : Int) ∧ (k : Int) < (l.length : Int)) := fun l h => by omega
  have w : IntKind.i64.wrap ((k : Int) + 1) = ((k + 1 : Nat) : Int) := by rw [wrap_in (by omega) (by omega)]; omega
  have e0 : ∀ j, rd vl k j = (vl.getD k []).getD j (.i 0) := fun _ => rfl
  have hk' : k < vl.length := by omega
  refine Exists.intro ?r (And.intro ?h1 ?h2)
  case h1 =>
    simp only [lrb_L0_step, cond_dec q0, Int.toNat_natCast, w, List.set_set, set_getD hk', set_rd hk', if_true, List.length_set, cond_dec (q vl rfl)]
    rfl
  case h2 =>
    intro j hj
    rw [upd_get hj, upd_get hj, upd_get hj, upd_get hj]
    simp only [List.length_cons, List.length_nil, set_rd hk', if_true]
    have c : j = 1 ∨ j = 2 ∨ j = 3 ∨ j = 4 ∨ ¬ (1 ≤ j ∧ j < 5) := by omega
    rcases c with rfl | rfl | rfl | rfl | h
    · rw [if_neg (by omega), if_neg (by omega), if_neg (by omega), if_pos (by omega), if_pos (by omega)]
      rfl
    · rw [if_neg (by omega), if_neg (by omega), if_pos (by omega), if_pos (by omega)]
      simp only [Nat.sub_self, List.getD_cons_zero]
      rw [upd_get (by omega), if_neg (by simp)]
    · rw [if_neg (by omega), if_pos (by omega), if_pos (by omega)]
      simp only [Nat.sub_self, List.getD_cons_zero]
      rw [upd_get (by omega), if_neg (by simp), upd_get (by omega), if_neg (by simp)]
    · rw [if_pos (by omega), if_pos (by omega)]
      simp only [Nat.sub_self, List.getD_cons_zero]
      rw [upd_get (by omega), if_neg (by simp), upd_get (by omega), if_neg (by simp), upd_get (by omega), if_neg (by simp)]
    · rw [if_neg h, if_neg (by omega), if_neg (by omega), if_neg (by omega), if_neg (by omega)]
theorem lrb0_it {x0 : List (List Ct)} (hx : x0.length ≤ 60) : ∀ (d k : Nat) (vl : List (List Ct)), k + d = x0.length → vl.length = x0.length → (∀ i, k ≤ i → i < x0.length → vl.getD i [] = x0.getD i []) → (∀ i, i < k → HeldRow (vl.getD i []) (x0.getD i [])) →
    ∃ c y, iter (lrb_L0_step x0) (d + 1) ((k : Int), vl) = some (c, y) ∧ y.length = x0.length ∧ ∀ i, i < x0.length → HeldRow (y.getD i []) (x0.getD i []) := by
  intro d
  induction d with
  | zero =>
    intro k vl hk hl h1 h2
    have q0 : ¬ ((k : Int) < (([] ++ x0 : List (List Ct)).length : Int)) := by simp; omega
    exact ⟨k, vl, iter_inr (by simp only [lrb_L0_step, cond_not q0]), hl, fun i hi => h2 i (by omega)⟩
  | succ d ih =>
    intro k vl hk hl h1 h2
    obtain ⟨r, hst, hr⟩ := lrb0_step hx hl (k := k) (by omega)
    rw [iter_inl hst]
    have gd : ∀ i, i ≠ k → (vl.set k r).getD i [] = vl.getD i [] := fun i hi => by simp [List.getD_eq_getElem?_getD, List.getElem?_set_ne (Ne.symm hi)]
    refine ih (k + 1) (vl.set k r) (by omega) (by simp [hl]) (fun i h3 h4 => by rw [gd i (by omega)]; exact h1 i (by omega) h4) (fun i h3 => ?_)
    by_cases hik : i = k
    · subst hik
      rw [set_getD (by omega)]
      rw [h1 i (by omega) (by omega)] at hr
      exact hr
    · rw [gd i hik]; exact h2 i (by omega)
/-- The values from k on, their bytes. -/
noncomputable def encR (y : List (List Ct)) (k : Nat) : List Int := enc (rd y k 0).int (rd y k 1).int (rd y k 2).int (rd y k 3).int (rd y k 4).int (rd y k 5).int (rd y k 6).int (rd y k 7).int (rd y k 8).int (rd y k 9).int (rd y k 10).int (rd y k 11).int (rd y k 12).int (rd y k 13).int (rd y k 14).int (rd y k 15).int (rd y k 16).int (rd y k 17).int (rd y k 18).int (rd y k 19).int (rd y k 20).int (rd y k 21).int (rd y k 22).int (rd y k 23).int (rd y k 24).int (rd y k 25).int (rd y k 26).int (rd y k 27).int (rd y k 28).int (rd y k 29).int (rd y k 30).int (rd y k 31).int (rd y k 32).int (rd y k 33).int (rd y k 34).int (rd y k 35).int (rd y k 36).int (rd y k 37).rows (rd y k 38).int
noncomputable def encs (y : List (List Ct)) : Nat → Nat → List Int
  | _, 0 => []
  | k, d + 1 => encR y k ++ encs y (k + 1) d
theorem encs_snoc (y : List (List Ct)) : ∀ (k d : Nat), encs y k (d + 1) = encs y k d ++ encR y (k + d)
  | k, 0 => by simp [encs]
  | k, d + 1 => by
    rw [encs, encs_snoc y (k + 1) d, encs, List.append_assoc, show k + 1 + d = k + (d + 1) by omega]
theorem lrb4_it {x0 y : List (List Ct)} (hy : (lrb_L0_v x0).snd = y) (hn : y.length ≤ 60) (hP : ∀ k, k < y.length → (rd y k 37).rows.length ≤ 3000) : ∀ (d k : Nat) (wl : List (List Ct)), k + d = y.length → wl.length ≤ 3010 * k → col wl = encs y 0 k →
    ∃ c u, iter (lrb_L4_step x0) (d + 1) ((k : Int), wl) = some (c, u) ∧ u.length ≤ 3010 * y.length ∧ col u = encs y 0 y.length := by
  intro d
  induction d with
  | zero =>
    intro k wl hk hl hc
    have q : ¬ ((k : Int) < (y.length : Int)) := by omega
    have hkk : k = y.length := by omega
    exact ⟨k, wl, iter_inr (by simp only [lrb_L4_step, hy, cond_not q]), by rw [← hkk]; exact hl, by rw [← hkk]; exact hc⟩
  | succ d ih =>
    intro k wl hk hl hc
    have q : ((k : Int) < (y.length : Int)) := by omega
    have q2 : ((0 : Int) ≤ (k : Int) ∧ (k : Int) < (y.length : Int)) := by omega
    have w : IntKind.i64.wrap ((k : Int) + 1) = ((k + 1 : Nat) : Int) := by rw [wrap_in (by omega) (by omega)]; omega
    obtain ⟨u, h1, h2, h3⟩ := enc_all wl (rd y k 0).int (rd y k 1).int (rd y k 2).int (rd y k 3).int (rd y k 4).int (rd y k 5).int (rd y k 6).int (rd y k 7).int (rd y k 8).int (rd y k 9).int (rd y k 10).int (rd y k 11).int (rd y k 12).int (rd y k 13).int (rd y k 14).int (rd y k 15).int (rd y k 16).int (rd y k 17).int (rd y k 18).int (rd y k 19).int (rd y k 20).int (rd y k 21).int (rd y k 22).int (rd y k 23).int (rd y k 24).int (rd y k 25).int (rd y k 26).int (rd y k 27).int (rd y k 28).int (rd y k 29).int (rd y k 30).int (rd y k 31).int (rd y k 32).int (rd y k 33).int (rd y k 34).int (rd y k 35).int (rd y k 36).int (rd y k 37).rows (rd y k 38).int (by omega) (hP k (by omega))
    have hst : lrb_L4_step x0 ((k : Int), wl) = some (.inl (((k + 1 : Nat) : Int), u)) := by
      simp only [lrb_L4_step, hy, cond_dec q, cond_dec q2, Int.toNat_natCast, w, wlay_v, h1, Option.isSome_some, Option.getD_some, cond_true]
    rw [iter_inl hst]
    refine ih (k + 1) u (by omega) (by omega) ?_
    rw [h2, hc, encs_snoc, Nat.zero_add]; rfl

/-! What was laid is read -/
theorem raw_laid {b : List (List Ct)} {t : List Int} {n : Nat} {x : Int} (hB : Byt (col b)) (hn : n ≤ 8) (hc : col b = byt n (IntKind.u64.wrap x) ++ t) : ∃ b', rrw_res b 0 (n : Int) = some (x % ((256 ^ n : Nat) : Int), 0, b') ∧ rrw_v b 0 (n : Int) = (x % ((256 ^ n : Nat) : Int), 0, b') ∧ col b' = t := by
  obtain ⟨h1, h2⟩ := raw_ok hc
  rw [byt_length] at h1 h2
  rw [num_bytx n x hn] at h1
  exact ⟨_, by rw [rrw_is hB hn, h1], by rw [rrw_v_is hB hn, h1], h2⟩
theorem Byt.right {s t : List Int} (h : Byt (s ++ t)) : Byt t := fun y hy => h y (List.mem_append_right _ hy)
theorem rfx_laid {b : List (List Ct)} {t : List Int} {x : Int} (hB : Byt (col b)) (h0 : -2147483648 ≤ x) (h1 : x ≤ 2147483648) (hc : col b = byt 5 (IntKind.u64.wrap x) ++ t) : ∃ b', rfx_res b 0 = some (x, 0, b') ∧ rfx_v b 0 = (x, 0, b') ∧ col b' = t := by
  obtain ⟨b', g1, g2, g3⟩ := raw_laid hB (by omega) hc
  rw [show (((5 : Nat)) : Int) = 5 from rfl, show (((256 ^ 5 : Nat)) : Int) = 1099511627776 from rfl] at g1 g2
  have hsx : (IntKind.i64.wrap (IntKind.u64.wrap ((x % 1099511627776) * (2 : Int) ^ min (Int.toNat (24 : Int)) IntKind.u64.bits))).fdiv ((2 : Int) ^ min (Int.toNat (24 : Int)) IntKind.i64.bits) = x := by
    rw [show (2 : Int) ^ min (Int.toNat (24 : Int)) IntKind.u64.bits = 16777216 from rfl, show (2 : Int) ^ min (Int.toNat (24 : Int)) IntKind.i64.bits = 16777216 from rfl]
    rw [u64_in (by omega) (by omega), Int.fdiv_eq_ediv_of_nonneg _ (by omega), wrap_eq]
    unfold RowKit.wrap64
    omega
  have hr : rfx_res b 0 = some (x, 0, b') := by
    unfold rfx_res
    rw [g1, g2, hsx, cond_not (by omega), cond_not (by omega)]
    rfl
  exact ⟨b', hr, by unfold rfx_v; rw [hr]; rfl, g3⟩
theorem rvc_laid {b : List (List Ct)} {t : List Int} {x y z : Int} (hB : Byt (col b)) (hx : -2147483648 ≤ x ∧ x ≤ 2147483648) (hy : -2147483648 ≤ y ∧ y ≤ 2147483648) (hz : -2147483648 ≤ z ∧ z ≤ 2147483648)
    (hc : col b = byt 5 (IntKind.u64.wrap x) ++ (byt 5 (IntKind.u64.wrap y) ++ byt 5 (IntKind.u64.wrap z)) ++ t) :
    ∃ b', (rvc_res b 0 = some (0, x, y, z, b') ∧ rvc_v b 0 = (0, x, y, z, b')) ∧ (rhu_res b 0 = some (0, x, y, z, b') ∧ rhu_v b 0 = (0, x, y, z, b')) ∧ col b' = t := by
  rw [List.append_assoc, List.append_assoc] at hc
  obtain ⟨b1, g1, g2, g3⟩ := rfx_laid hB hx.1 hx.2 hc
  have hB1 : Byt (col b1) := by rw [g3]; rw [hc] at hB; exact hB.right
  obtain ⟨b2, k1, k2, k3⟩ := rfx_laid hB1 hy.1 hy.2 g3
  have hB2 : Byt (col b2) := by rw [k3]; rw [g3] at hB1; exact hB1.right
  obtain ⟨b3, m1, m2, m3⟩ := rfx_laid hB2 hz.1 hz.2 k3
  have hr : rvc_res b 0 = some (0, x, y, z, b3) := by unfold rvc_res; simp only [g1, g2, k1, k2, m1, m2]; rfl
  have hr' : rhu_res b 0 = some (0, x, y, z, b3) := by unfold rhu_res; simp only [g1, g2, k1, k2, m1, m2]; rfl
  exact ⟨b3, ⟨hr, by unfold rvc_v; rw [hr]; rfl⟩, ⟨hr', by unfold rhu_v; rw [hr']; rfl⟩, m3⟩
theorem rtk_laid {b : List (List Ct)} {s t : List Int} (hc : col b = s ++ t) : ∃ p b', rtk_res b 0 (s.length : Int) = some (0, b', p) ∧ rtk_v b 0 (s.length : Int) = (0, b', p) ∧ col p = s ∧ p.length = s.length ∧ col b' = t := by
  have hl : b.length = s.length + t.length := by rw [← col_length, hc, List.length_append]
  have h : rtk_res b 0 (s.length : Int) = some (0, partOf b (s.length : Int) (b.length : Int), partOf b (0 : Int) (s.length : Int)) := by
    rw [rtk_is, if_neg (by simp), if_neg (by omega)]
  have hp : col (partOf b (0 : Int) (s.length : Int)) = s := by rw [part_all, hc]; simp
  exact ⟨_, _, h, by unfold rtk_v; rw [h]; rfl, hp, by rw [← col_length, hp], by rw [part_rest, hc]; simp⟩
theorem rbl_laid {b P : List (List Ct)} {t : List Int} (hB : Byt (col b)) (hP : P.length ≤ 3000) (hc : col b = byt 4 (IntKind.u64.wrap (P.length : Int)) ++ col P ++ t) : ∃ p b', rbl_res b 0 3000 = some (0, p, b') ∧ rbl_v b 0 3000 = (0, p, b') ∧ col p = col P ∧ col b' = t := by
  rw [List.append_assoc] at hc
  obtain ⟨b1, g1, g2, g3⟩ := raw_laid hB (by omega) hc
  rw [show (((4 : Nat)) : Int) = 4 from rfl, show ((P.length : Int)) % ((256 ^ 4 : Nat) : Int) = (P.length : Int) by omega] at g1 g2
  obtain ⟨p, b2, k1, k2, k3, k4, k5⟩ := rtk_laid g3
  rw [col_length] at k1 k2 k4
  have w : IntKind.i64.wrap (P.length : Int) = (P.length : Int) := wrap_in (by omega) (by omega)
  have q : ¬ ((P.length : Int) > if (0 : Int) > 3000 then (0 : Int) else 3000) := by rw [if_neg (by omega)]; omega
  have hr : rbl_res b 0 3000 = some (0, [] ++ p, b2) := by
    unfold rbl_res
    simp only [g1, g2, w, cond_not q, k1, k2, Option.isSome_some, cond_true]
    refine ob_step (by omega) rfl
  exact ⟨_, b2, hr, by unfold rbl_v; rw [hr]; rfl, by rw [List.nil_append]; exact k3, k5⟩
theorem rsm_laid {b : List (List Ct)} {t : List Int} {D0 D1 D2 D3 D4 D5 D6 D7 D8 D9 D10 D11 D12 D13 D14 D15 D16 D17 D18 D19 D20 D21 D22 D23 D24 D25 D26 D27 D28 D29 D30 D31 : Int} (hc : col b = [D0, D1, D2, D3, D4, D5, D6, D7, D8, D9, D10, D11, D12, D13, D14, D15, D16, D17, D18, D19, D20, D21, D22, D23, D24, D25, D26, D27, D28, D29, D30, D31] ++ t) : ∃ b', rsm_res b 0 = some (0, D0, D1, D2, D3, D4, D5, D6, D7, D8, D9, D10, D11, D12, D13, D14, D15, D16, D17, D18, D19, D20, D21, D22, D23, D24, D25, D26, D27, D28, D29, D30, D31, b') ∧ rsm_v b 0 = (0, D0, D1, D2, D3, D4, D5, D6, D7, D8, D9, D10, D11, D12, D13, D14, D15, D16, D17, D18, D19, D20, D21, D22, D23, D24, D25, D26, D27, D28, D29, D30, D31, b') ∧ col b' = t := by
  obtain ⟨p, b', k1, k2, k3, k4, k5⟩ := rtk_laid hc
  have e : (([D0, D1, D2, D3, D4, D5, D6, D7, D8, D9, D10, D11, D12, D13, D14, D15, D16, D17, D18, D19, D20, D21, D22, D23, D24, D25, D26, D27, D28, D29, D30, D31] : List Int).length : Int) = 32 := rfl
  have e' : p.length = 32 := k4
  rw [e] at k1 k2
  have hr : rsm_res b 0 = some (0, D0, D1, D2, D3, D4, D5, D6, D7, D8, D9, D10, D11, D12, D13, D14, D15, D16, D17, D18, D19, D20, D21, D22, D23, D24, D25, D26, D27, D28, D29, D30, D31, b') := by
    unfold rsm_res
    rw [k1, k2]
    simp only [e', rd_col, k3]
    rfl
  exact ⟨b', hr, by unfold rsm_v; rw [hr]; rfl, k5⟩
theorem u16_mod (d : Int) : IntKind.u16.wrap d = d % 65536 := by simp [IntKind.wrap, IntKind.bits, IntKind.signed]
theorem u32_mod (d : Int) : IntKind.u32.wrap d = d % 4294967296 := by simp [IntKind.wrap, IntKind.bits, IntKind.signed]
theorem lrb6_step {x0 y : List (List Ct)} (hy : (lrb_L0_v x0).snd = y) (hn : y.length ≤ 60) {k : Nat} (hk : k < y.length) (hP : (rd y k 37).rows.length ≤ 3000) (hR : ∀ j, 1 ≤ j → j < 5 → -2147483648 ≤ (rd y k j).int ∧ (rd y k j).int ≤ 2147483648)
    {b : List (List Ct)} {t : List Int} (hB : Byt (col b)) (hc : col b = encR y k ++ t) : ∃ b', lrb_L6_step x0 ((k : Int), (0 : Int), b) = some (.inl (((k + 1 : Nat) : Int), (0 : Int), b')) ∧ col b' = t := by
  have q : ((k : Int) < (y.length : Int)) := by omega
  have q2 : ((0 : Int) ≤ (k : Int) ∧ (k : Int) < (y.length : Int)) := by omega
  have w : IntKind.i64.wrap ((k : Int) + 1) = ((k + 1 : Nat) : Int) := by rw [wrap_in (by omega) (by omega)]; omega
  unfold encR at hc
  by_cases h0 : (rd y k 0).int = 0
  · have hc' : col b = byt 1 (IntKind.u64.wrap (rd y k 1).int) ++ t := by rw [hc, h0]; rfl
    obtain ⟨b', g1, g2, g3⟩ := raw_laid hB (by omega) hc'
    rw [show (((1 : Nat)) : Int) = 1 from rfl] at g1 g2
    have hv : rby_res b 0 = some (IntKind.i64.wrap ((rd y k 1).int % ((256 ^ 1 : Nat) : Int)), 0, b') := by unfold rby_res; rw [g1, g2]; rfl
    have hv' : rby_v b 0 = (IntKind.i64.wrap ((rd y k 1).int % ((256 ^ 1 : Nat) : Int)), 0, b') := by unfold rby_v; rw [hv]; rfl
    have he : (IntKind.u8.wrap (IntKind.i64.wrap ((rd y k 1).int % ((256 ^ 1 : Nat) : Int))) == IntKind.u8.wrap (rd y k 1).int) = true := by
      rw [wrap_in (by omega) (by omega), u8_mod, u8_mod]; simp
    refine ⟨b', ?_, g3⟩
    simp only [lrb_L6_step, hy, cond_dec q, cond_dec q2, Int.toNat_natCast, w, h0, show ((0 : Int) == (0 : Int)) = true from rfl, show ((0 : Int) == (1 : Int)) = false from rfl, show ((0 : Int) == (2 : Int)) = false from rfl, show ((0 : Int) == (3 : Int)) = false from rfl, show ((0 : Int) == (4 : Int)) = false from rfl, show ((0 : Int) == (5 : Int)) = false from rfl, show ((0 : Int) == (6 : Int)) = false from rfl, show ((0 : Int) == (7 : Int)) = false from rfl, show ((0 : Int) == (8 : Int)) = false from rfl, cond_true, cond_false, hv, hv', he, Option.isSome_some]
    rfl
  by_cases h1 : (rd y k 0).int = 1
  · have hc' : col b = byt 2 (IntKind.u64.wrap (rd y k 1).int) ++ t := by rw [hc, h1]; rfl
    obtain ⟨b', g1, g2, g3⟩ := raw_laid hB (by omega) hc'
    rw [show (((2 : Nat)) : Int) = 2 from rfl] at g1 g2
    have hv : rha_res b 0 = some (IntKind.i64.wrap ((rd y k 1).int % ((256 ^ 2 : Nat) : Int)), 0, b') := by unfold rha_res; rw [g1, g2]; rfl
    have hv' : rha_v b 0 = (IntKind.i64.wrap ((rd y k 1).int % ((256 ^ 2 : Nat) : Int)), 0, b') := by unfold rha_v; rw [hv]; rfl
    have he : (IntKind.u16.wrap (IntKind.i64.wrap ((rd y k 1).int % ((256 ^ 2 : Nat) : Int))) == IntKind.u16.wrap (rd y k 1).int) = true := by
      rw [wrap_in (by omega) (by omega), u16_mod, u16_mod]; simp
    refine ⟨b', ?_, g3⟩
    simp only [lrb_L6_step, hy, cond_dec q, cond_dec q2, Int.toNat_natCast, w, h1, show ((1 : Int) == (0 : Int)) = false from rfl, show ((1 : Int) == (1 : Int)) = true from rfl, show ((1 : Int) == (2 : Int)) = false from rfl, show ((1 : Int) == (3 : Int)) = false from rfl, show ((1 : Int) == (4 : Int)) = false from rfl, show ((1 : Int) == (5 : Int)) = false from rfl, show ((1 : Int) == (6 : Int)) = false from rfl, show ((1 : Int) == (7 : Int)) = false from rfl, show ((1 : Int) == (8 : Int)) = false from rfl, cond_true, cond_false, hv, hv', he, Option.isSome_some]
    rfl
  by_cases h2 : (rd y k 0).int = 2
  · have hc' : col b = byt 4 (IntKind.u64.wrap (rd y k 1).int) ++ t := by rw [hc, h2]; rfl
    obtain ⟨b', g1, g2, g3⟩ := raw_laid hB (by omega) hc'
    rw [show (((4 : Nat)) : Int) = 4 from rfl] at g1 g2
    have hv : rwo_res b 0 = some (IntKind.i64.wrap ((rd y k 1).int % ((256 ^ 4 : Nat) : Int)), 0, b') := by unfold rwo_res; rw [g1, g2]; rfl
    have hv' : rwo_v b 0 = (IntKind.i64.wrap ((rd y k 1).int % ((256 ^ 4 : Nat) : Int)), 0, b') := by unfold rwo_v; rw [hv]; rfl
    have he : (IntKind.u32.wrap (IntKind.i64.wrap ((rd y k 1).int % ((256 ^ 4 : Nat) : Int))) == IntKind.u32.wrap (rd y k 1).int) = true := by
      rw [wrap_in (by omega) (by omega), u32_mod, u32_mod]; simp
    refine ⟨b', ?_, g3⟩
    simp only [lrb_L6_step, hy, cond_dec q, cond_dec q2, Int.toNat_natCast, w, h2, show ((2 : Int) == (0 : Int)) = false from rfl, show ((2 : Int) == (1 : Int)) = false from rfl, show ((2 : Int) == (2 : Int)) = true from rfl, show ((2 : Int) == (3 : Int)) = false from rfl, show ((2 : Int) == (4 : Int)) = false from rfl, show ((2 : Int) == (5 : Int)) = false from rfl, show ((2 : Int) == (6 : Int)) = false from rfl, show ((2 : Int) == (7 : Int)) = false from rfl, show ((2 : Int) == (8 : Int)) = false from rfl, cond_true, cond_false, hv, hv', he, Option.isSome_some]
    rfl
  by_cases h3 : (rd y k 0).int = 3
  · have hc' : col b = byt 8 (IntKind.u64.wrap (rd y k 1).int) ++ t := by rw [hc, h3]; rfl
    obtain ⟨b', g1, g2, g3⟩ := raw_laid hB (by omega) hc'
    rw [show (((8 : Nat)) : Int) = 8 from rfl] at g1 g2
    have hv : rlo_res b 0 = some ((rd y k 1).int % ((256 ^ 8 : Nat) : Int), 0, b') := by unfold rlo_res; rw [g1, g2]; rfl
    have hv' : rlo_v b 0 = ((rd y k 1).int % ((256 ^ 8 : Nat) : Int), 0, b') := by unfold rlo_v; rw [hv]; rfl
    have he : ((rd y k 1).int % ((256 ^ 8 : Nat) : Int) == IntKind.u64.wrap (rd y k 1).int) = true := by rw [u64_mod]; simp
    refine ⟨b', ?_, g3⟩
    simp only [lrb_L6_step, hy, cond_dec q, cond_dec q2, Int.toNat_natCast, w, h3, show ((3 : Int) == (0 : Int)) = false from rfl, show ((3 : Int) == (1 : Int)) = false from rfl, show ((3 : Int) == (2 : Int)) = false from rfl, show ((3 : Int) == (3 : Int)) = true from rfl, show ((3 : Int) == (4 : Int)) = false from rfl, show ((3 : Int) == (5 : Int)) = false from rfl, show ((3 : Int) == (6 : Int)) = false from rfl, show ((3 : Int) == (7 : Int)) = false from rfl, show ((3 : Int) == (8 : Int)) = false from rfl, cond_true, cond_false, hv, hv', he, Option.isSome_some]
    rfl
  by_cases h4 : (rd y k 0).int = 4
  · have hc' : col b = byt 5 (IntKind.u64.wrap (rd y k 1).int) ++ t := by rw [hc, h4]; rfl
    obtain ⟨b', hv, hv', g3⟩ := rfx_laid hB (hR 1 (by omega) (by omega)).1 (hR 1 (by omega) (by omega)).2 hc'
    refine ⟨b', ?_, g3⟩
    simp only [lrb_L6_step, hy, cond_dec q, cond_dec q2, Int.toNat_natCast, w, h4, show ((4 : Int) == (0 : Int)) = false from rfl, show ((4 : Int) == (1 : Int)) = false from rfl, show ((4 : Int) == (2 : Int)) = false from rfl, show ((4 : Int) == (3 : Int)) = false from rfl, show ((4 : Int) == (4 : Int)) = true from rfl, show ((4 : Int) == (5 : Int)) = false from rfl, show ((4 : Int) == (6 : Int)) = false from rfl, show ((4 : Int) == (7 : Int)) = false from rfl, show ((4 : Int) == (8 : Int)) = false from rfl, cond_true, cond_false, hv, hv', Option.isSome_some, beq_self_eq_true]
    rfl
  by_cases h5 : (rd y k 0).int = 5
  · have hc' : col b = byt 5 (IntKind.u64.wrap (rd y k 2).int) ++ (byt 5 (IntKind.u64.wrap (rd y k 3).int) ++ byt 5 (IntKind.u64.wrap (rd y k 4).int)) ++ t := by rw [hc, h5]; rfl
    obtain ⟨b', ⟨hv, hv'⟩, ⟨hw, hw'⟩, g3⟩ := rvc_laid hB (hR 2 (by omega) (by omega)) (hR 3 (by omega) (by omega)) (hR 4 (by omega) (by omega)) hc'
    refine ⟨b', ?_, g3⟩
    simp only [lrb_L6_step, hy, cond_dec q, cond_dec q2, Int.toNat_natCast, w, h5, show ((5 : Int) == (0 : Int)) = false from rfl, show ((5 : Int) == (1 : Int)) = false from rfl, show ((5 : Int) == (2 : Int)) = false from rfl, show ((5 : Int) == (3 : Int)) = false from rfl, show ((5 : Int) == (4 : Int)) = false from rfl, show ((5 : Int) == (5 : Int)) = true from rfl, show ((5 : Int) == (6 : Int)) = false from rfl, show ((5 : Int) == (7 : Int)) = false from rfl, show ((5 : Int) == (8 : Int)) = false from rfl, cond_true, cond_false, hv, hv', hw, hw', Option.isSome_some, beq_self_eq_true]
    rfl
  by_cases h6 : (rd y k 0).int = 6
  · have hc' : col b = byt 5 (IntKind.u64.wrap (rd y k 2).int) ++ (byt 5 (IntKind.u64.wrap (rd y k 3).int) ++ byt 5 (IntKind.u64.wrap (rd y k 4).int)) ++ t := by rw [hc, h6]; rfl
    obtain ⟨b', ⟨hv, hv'⟩, ⟨hw, hw'⟩, g3⟩ := rvc_laid hB (hR 2 (by omega) (by omega)) (hR 3 (by omega) (by omega)) (hR 4 (by omega) (by omega)) hc'
    refine ⟨b', ?_, g3⟩
    simp only [lrb_L6_step, hy, cond_dec q, cond_dec q2, Int.toNat_natCast, w, h6, show ((6 : Int) == (0 : Int)) = false from rfl, show ((6 : Int) == (1 : Int)) = false from rfl, show ((6 : Int) == (2 : Int)) = false from rfl, show ((6 : Int) == (3 : Int)) = false from rfl, show ((6 : Int) == (4 : Int)) = false from rfl, show ((6 : Int) == (5 : Int)) = false from rfl, show ((6 : Int) == (6 : Int)) = true from rfl, show ((6 : Int) == (7 : Int)) = false from rfl, show ((6 : Int) == (8 : Int)) = false from rfl, cond_true, cond_false, hv, hv', hw, hw', Option.isSome_some, beq_self_eq_true]
    rfl
  by_cases h7 : (rd y k 0).int = 7
  · have hc' : col b = [(rd y k 5).int, (rd y k 6).int, (rd y k 7).int, (rd y k 8).int, (rd y k 9).int, (rd y k 10).int, (rd y k 11).int, (rd y k 12).int, (rd y k 13).int, (rd y k 14).int, (rd y k 15).int, (rd y k 16).int, (rd y k 17).int, (rd y k 18).int, (rd y k 19).int, (rd y k 20).int, (rd y k 21).int, (rd y k 22).int, (rd y k 23).int, (rd y k 24).int, (rd y k 25).int, (rd y k 26).int, (rd y k 27).int, (rd y k 28).int, (rd y k 29).int, (rd y k 30).int, (rd y k 31).int, (rd y k 32).int, (rd y k 33).int, (rd y k 34).int, (rd y k 35).int, (rd y k 36).int] ++ t := by rw [hc, h7]; rfl
    obtain ⟨b', hv, hv', g3⟩ := rsm_laid hc'
    refine ⟨b', ?_, g3⟩
    simp only [lrb_L6_step, hy, cond_dec q, cond_dec q2, Int.toNat_natCast, w, h7, show ((7 : Int) == (0 : Int)) = false from rfl, show ((7 : Int) == (1 : Int)) = false from rfl, show ((7 : Int) == (2 : Int)) = false from rfl, show ((7 : Int) == (3 : Int)) = false from rfl, show ((7 : Int) == (4 : Int)) = false from rfl, show ((7 : Int) == (5 : Int)) = false from rfl, show ((7 : Int) == (6 : Int)) = false from rfl, show ((7 : Int) == (7 : Int)) = true from rfl, show ((7 : Int) == (8 : Int)) = false from rfl, cond_true, cond_false, hv, hv', Option.isSome_some, beq_self_eq_true, Bool.and_true, Bool.and_self]
    rfl
  by_cases h8 : (rd y k 0).int = 8
  · have hc' : col b = byt 4 (IntKind.u64.wrap ((rd y k 37).rows.length : Int)) ++ col (rd y k 37).rows ++ t := by rw [hc, h8]; rfl
    obtain ⟨p, b', hv, hv', hp, g3⟩ := rbl_laid hB hP hc'
    have hs : ((strOf p).toList == (strOf (rd y k 37).rows).toList) = true := by rw [strOf_col hp]; simp
    refine ⟨b', ?_, g3⟩
    simp only [lrb_L6_step, hy, cond_dec q, cond_dec q2, Int.toNat_natCast, w, h8, show ((8 : Int) == (0 : Int)) = false from rfl, show ((8 : Int) == (1 : Int)) = false from rfl, show ((8 : Int) == (2 : Int)) = false from rfl, show ((8 : Int) == (3 : Int)) = false from rfl, show ((8 : Int) == (4 : Int)) = false from rfl, show ((8 : Int) == (5 : Int)) = false from rfl, show ((8 : Int) == (6 : Int)) = false from rfl, show ((8 : Int) == (7 : Int)) = false from rfl, show ((8 : Int) == (8 : Int)) = true from rfl, cond_true, cond_false, hv, hv', hs, Option.isSome_some]
    rfl
  have hc' : col b = t := by rw [hc]; unfold enc; rw [if_neg h0, if_neg h1, if_neg h2, if_neg h3, if_neg h4, if_neg (by omega), if_neg h7, if_neg h8]; rfl
  refine ⟨b, ?_, hc'⟩
  simp only [lrb_L6_step, hy, cond_dec q, cond_dec q2, Int.toNat_natCast, w, (show ((rd y k 0).int == (0 : Int)) = false by simpa using h0), (show ((rd y k 0).int == (1 : Int)) = false by simpa using h1), (show ((rd y k 0).int == (2 : Int)) = false by simpa using h2), (show ((rd y k 0).int == (3 : Int)) = false by simpa using h3), (show ((rd y k 0).int == (4 : Int)) = false by simpa using h4), (show ((rd y k 0).int == (5 : Int)) = false by simpa using h5), (show ((rd y k 0).int == (6 : Int)) = false by simpa using h6), (show ((rd y k 0).int == (7 : Int)) = false by simpa using h7), (show ((rd y k 0).int == (8 : Int)) = false by simpa using h8), cond_true, cond_false]
  rfl
theorem lrb6_it {x0 y : List (List Ct)} (hy : (lrb_L0_v x0).snd = y) (hn : y.length ≤ 60) (hP : ∀ k, k < y.length → (rd y k 37).rows.length ≤ 3000) (hR : ∀ k, k < y.length → ∀ j, 1 ≤ j → j < 5 → -2147483648 ≤ (rd y k j).int ∧ (rd y k j).int ≤ 2147483648) : ∀ (d k : Nat) (b : List (List Ct)), k + d = y.length → Byt (col b) → col b = encs y k d →
    ∃ c b', iter (lrb_L6_step x0) (d + 1) ((k : Int), (0 : Int), b) = some (.inl (c, 0, b')) ∧ b'.length = 0 := by
  intro d
  induction d with
  | zero =>
    intro k b hk hB hc
    have q : ¬ ((k : Int) < (y.length : Int)) := by omega
    exact ⟨k, b, iter_inr (by simp only [lrb_L6_step, hy, cond_not q]), by rw [← col_length, hc]; rfl⟩
  | succ d ih =>
    intro k b hk hB hc
    obtain ⟨b', h1, h2⟩ := lrb6_step hy hn (k := k) (by omega) (hP k (by omega)) (hR k (by omega)) hB hc
    rw [iter_inl h1]
    exact ih (k + 1) b' (by omega) (by rw [h2]; rw [hc] at hB; exact hB.right) h2
theorem lrb_true (x0 : List (List Ct)) (hx : x0.length ≤ 9223372036854775807) (hW : ∀ i, i < x0.length → ∀ (j : Nat) s, [.int .i64, .int .i64, .int .i64, .int .i64, .int .i64, .int .u8, .int .u8, .int .u8, .int .u8, .int .u8, .int .u8, .int .u8, .int .u8, .int .u8, .int .u8, .int .u8, .int .u8, .int .u8, .int .u8, .int .u8, .int .u8, .int .u8, .int .u8, .int .u8, .int .u8, .int .u8, .int .u8, .int .u8, .int .u8, .int .u8, .int .u8, .int .u8, .int .u8, .int .u8, .int .u8, .int .u8, .int .u8, .sl [.int .u8], .int .i64][j]? = some s → CtWf 7 s (rd x0 i j)) : lrb_res x0 = some true := by
  unfold lrb_res
  obtain ⟨f1, f2⟩ := fitsB_is hx
  cases hf : fits_v x0 with
  | false => rw [f1]; rfl
  | true =>
    obtain ⟨hn, hP0⟩ := f2 hf
    have e : ((0 : Nat) : Int) = (0 : Int) := rfl
    obtain ⟨c, y, g1, g2, g3⟩ := lrb0_it hn x0.length 0 x0 (by omega) rfl (fun _ _ _ => rfl) (fun i h => by omega)
    rw [e] at g1
    have p1 : lrb_L0_p x0 = true := by unfold lrb_L0_p; rw [List.nil_append, g1]; rfl
    have hy : (lrb_L0_v x0).snd = y := by unfold lrb_L0_v loopRes; rw [List.nil_append, g1]; rfl
    have cell : ∀ k, k < y.length → ∀ j, j < 39 → rd y k j = if 1 ≤ j ∧ j < 5 then .i (heldR_v (rd x0 k j).int) else rd x0 k j := fun k hk j hj => g3 k (by omega) j hj
    have hP : ∀ k, k < y.length → (rd y k 37).rows.length ≤ 3000 := fun k hk => by rw [cell k hk 37 (by omega), if_neg (by omega)]; exact hP0 k (by omega)
    have hR : ∀ k, k < y.length → ∀ j, 1 ≤ j → j < 5 → -2147483648 ≤ (rd y k j).int ∧ (rd y k j).int ≤ 2147483648 := fun k hk j h1 h2 => by rw [cell k hk j (by omega), if_pos ⟨h1, h2⟩]; exact held_range _
    have hBy : ∀ k, k < y.length → Byt (encR y k) := by
      intro k hk
      have hb8 : ∀ (r : Int), (Lit.int IntKind.u8 r).wf = true → 0 ≤ r ∧ r < 256 := fun r hr => by
        simp [Lit.wf, IntKind.min, IntKind.max, IntKind.bits, IntKind.signed] at hr; omega
      unfold encR enc
      split
      · exact byt_byt _ _
      split
      · exact byt_byt _ _
      split
      · exact byt_byt _ _
      split
      · exact byt_byt _ _
      split
      · exact byt_byt _ _
      split
      · intro z hz
        rcases List.mem_append.1 hz with hz | hz
        · exact byt_byt _ _ z hz
        rcases List.mem_append.1 hz with hz | hz
        · exact byt_byt _ _ z hz
        · exact byt_byt _ _ z hz
      split
      · intro z hz
        simp only [List.mem_cons, List.not_mem_nil, or_false] at hz
        rcases hz with rfl | rfl | rfl | rfl | rfl | rfl | rfl | rfl | rfl | rfl | rfl | rfl | rfl | rfl | rfl | rfl | rfl | rfl | rfl | rfl | rfl | rfl | rfl | rfl | rfl | rfl | rfl | rfl | rfl | rfl | rfl | rfl
        · rw [cell k hk 5 (by omega), if_neg (by omega)]; exact hb8 _ (hW k (by omega) 5 _ rfl)
        · rw [cell k hk 6 (by omega), if_neg (by omega)]; exact hb8 _ (hW k (by omega) 6 _ rfl)
        · rw [cell k hk 7 (by omega), if_neg (by omega)]; exact hb8 _ (hW k (by omega) 7 _ rfl)
        · rw [cell k hk 8 (by omega), if_neg (by omega)]; exact hb8 _ (hW k (by omega) 8 _ rfl)
        · rw [cell k hk 9 (by omega), if_neg (by omega)]; exact hb8 _ (hW k (by omega) 9 _ rfl)
        · rw [cell k hk 10 (by omega), if_neg (by omega)]; exact hb8 _ (hW k (by omega) 10 _ rfl)
        · rw [cell k hk 11 (by omega), if_neg (by omega)]; exact hb8 _ (hW k (by omega) 11 _ rfl)
        · rw [cell k hk 12 (by omega), if_neg (by omega)]; exact hb8 _ (hW k (by omega) 12 _ rfl)
        · rw [cell k hk 13 (by omega), if_neg (by omega)]; exact hb8 _ (hW k (by omega) 13 _ rfl)
        · rw [cell k hk 14 (by omega), if_neg (by omega)]; exact hb8 _ (hW k (by omega) 14 _ rfl)
        · rw [cell k hk 15 (by omega), if_neg (by omega)]; exact hb8 _ (hW k (by omega) 15 _ rfl)
        · rw [cell k hk 16 (by omega), if_neg (by omega)]; exact hb8 _ (hW k (by omega) 16 _ rfl)
        · rw [cell k hk 17 (by omega), if_neg (by omega)]; exact hb8 _ (hW k (by omega) 17 _ rfl)
        · rw [cell k hk 18 (by omega), if_neg (by omega)]; exact hb8 _ (hW k (by omega) 18 _ rfl)
        · rw [cell k hk 19 (by omega), if_neg (by omega)]; exact hb8 _ (hW k (by omega) 19 _ rfl)
        · rw [cell k hk 20 (by omega), if_neg (by omega)]; exact hb8 _ (hW k (by omega) 20 _ rfl)
        · rw [cell k hk 21 (by omega), if_neg (by omega)]; exact hb8 _ (hW k (by omega) 21 _ rfl)
        · rw [cell k hk 22 (by omega), if_neg (by omega)]; exact hb8 _ (hW k (by omega) 22 _ rfl)
        · rw [cell k hk 23 (by omega), if_neg (by omega)]; exact hb8 _ (hW k (by omega) 23 _ rfl)
        · rw [cell k hk 24 (by omega), if_neg (by omega)]; exact hb8 _ (hW k (by omega) 24 _ rfl)
        · rw [cell k hk 25 (by omega), if_neg (by omega)]; exact hb8 _ (hW k (by omega) 25 _ rfl)
        · rw [cell k hk 26 (by omega), if_neg (by omega)]; exact hb8 _ (hW k (by omega) 26 _ rfl)
        · rw [cell k hk 27 (by omega), if_neg (by omega)]; exact hb8 _ (hW k (by omega) 27 _ rfl)
        · rw [cell k hk 28 (by omega), if_neg (by omega)]; exact hb8 _ (hW k (by omega) 28 _ rfl)
        · rw [cell k hk 29 (by omega), if_neg (by omega)]; exact hb8 _ (hW k (by omega) 29 _ rfl)
        · rw [cell k hk 30 (by omega), if_neg (by omega)]; exact hb8 _ (hW k (by omega) 30 _ rfl)
        · rw [cell k hk 31 (by omega), if_neg (by omega)]; exact hb8 _ (hW k (by omega) 31 _ rfl)
        · rw [cell k hk 32 (by omega), if_neg (by omega)]; exact hb8 _ (hW k (by omega) 32 _ rfl)
        · rw [cell k hk 33 (by omega), if_neg (by omega)]; exact hb8 _ (hW k (by omega) 33 _ rfl)
        · rw [cell k hk 34 (by omega), if_neg (by omega)]; exact hb8 _ (hW k (by omega) 34 _ rfl)
        · rw [cell k hk 35 (by omega), if_neg (by omega)]; exact hb8 _ (hW k (by omega) 35 _ rfl)
        · rw [cell k hk 36 (by omega), if_neg (by omega)]; exact hb8 _ (hW k (by omega) 36 _ rfl)
      split
      · intro z hz
        rcases List.mem_append.1 hz with hz | hz
        · exact byt_byt _ _ z hz
        · rw [cell k hk 37 (by omega), if_neg (by omega)] at hz
          have hw : CtWf 7 (Sh.sl [Sh.int IntKind.u8]) (rd x0 k 37) := hW k (by omega) 37 _ rfl
          obtain ⟨i, hi, rfl⟩ := List.getElem_of_mem hz
          rw [col_length] at hi
          have := hb8 _ (hw.2 i hi 0 _ rfl)
          rw [rd_col] at this
          simpa [List.getD, col_length, hi] using this
      · intro z hz; cases hz
    have hBs : ∀ (d k : Nat), k + d ≤ y.length → Byt (encs y k d) := by
      intro d
      induction d with
      | zero => intro k _ z hz; cases hz
      | succ d ih =>
        intro k hk z hz
        rcases List.mem_append.1 hz with hz | hz
        · exact hBy k (by omega) z hz
        · exact ih (k + 1) (by omega) z hz
    obtain ⟨c2, u, k1, k2, k3⟩ := lrb4_it hy (by omega) hP y.length 0 [] (by omega) (by simp) rfl
    rw [e] at k1
    have s1 : lrb_L4_p x0 = true := by unfold lrb_L4_p; rw [← g2, k1]; rfl
    have s2 : (lrb_L4_v x0).snd = u := by unfold lrb_L4_v loopRes; rw [← g2, k1]; rfl
    have r1 : rrd_res ([] ++ u) = some ([] ++ ([] ++ u)) := by
      unfold rrd_res
      exact ob_step (by simp only [List.nil_append]; omega) rfl
    have r2 : rrd_v ([] ++ u) = u := by unfold rrd_v; rw [r1]; rfl
    obtain ⟨c3, b', m1, m2⟩ := lrb6_it hy (by omega) hP hR y.length 0 u (by omega) (by rw [k3]; exact hBs _ _ (by omega)) k3
    rw [e] at m1
    have t1 : lrb_L6_p x0 = true := by unfold lrb_L6_p; rw [s2, r2, ← g2, m1]; rfl
    have t2 : lrb_L6_v x0 = .inl (c3, 0, b') := by unfold lrb_L6_v; rw [s2, r2, ← g2, m1]; rfl
    have q1 : ¬ ((b'.length : Int) > 0) := by omega
    rw [f1, p1, s1, s2, r1, t1, t2]
    simp only [Bool.not_true, cond_true, cond_false, Option.isSome_some, isL, getL, cond_not q1]
    refine ob_step (by omega) (ob_step (by omega) ((cond_not q1).trans rfl))
theorem lrb_call (x0 : List (List Ct)) (hx : x0.length ≤ 9223372036854775807) (hW : ∀ i, i < x0.length → ∀ (j : Nat) s, [.int .i64, .int .i64, .int .i64, .int .i64, .int .i64, .int .u8, .int .u8, .int .u8, .int .u8, .int .u8, .int .u8, .int .u8, .int .u8, .int .u8, .int .u8, .int .u8, .int .u8, .int .u8, .int .u8, .int .u8, .int .u8, .int .u8, .int .u8, .int .u8, .int .u8, .int .u8, .int .u8, .int .u8, .int .u8, .int .u8, .int .u8, .int .u8, .int .u8, .int .u8, .int .u8, .int .u8, .int .u8, .sl [.int .u8], .int .i64][j]? = some s → CtWf 7 s (rd x0 i j)) : CallOk Try.prog 6 [.sv (.one (.ext 0))] [(0, .grid [.int .i64, .int .i64, .int .i64, .int .i64, .int .i64, .int .u8, .int .u8, .int .u8, .int .u8, .int .u8, .int .u8, .int .u8, .int .u8, .int .u8, .int .u8, .int .u8, .int .u8, .int .u8, .int .u8, .int .u8, .int .u8, .int .u8, .int .u8, .int .u8, .int .u8, .int .u8, .int .u8, .int .u8, .int .u8, .int .u8, .int .u8, .int .u8, .int .u8, .int .u8, .int .u8, .int .u8, .int .u8, .sl [.int .u8], .int .i64] x0)] 1 (lrb_O true) := lrb_tree (lrb_true x0 hx hW)
end Go.Proofs.Ytidhjgcegcfmeaa
