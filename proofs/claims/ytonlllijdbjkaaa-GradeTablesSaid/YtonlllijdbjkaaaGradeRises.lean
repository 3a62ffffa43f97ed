/- The law GradeRises: it answers true for all values. No condition. -/
import Derived.Test.YtonlllijdbjkaaaGradeCurves
import Derived.Test.YtonlllijdbjkaaaGradeRisesT
set_option linter.unusedVariables false
set_option linter.unusedSimpArgs false
namespace Go.Proofs.Ytonlllijdbjkaaa
open Go.RowKit

/-! ### A curve that rises never falls -/
theorem bet_bd {a0 a1 b0 b1 X : Int} (h : a0 < b0) (hy : a1 ≤ b1) (h1 : a0 ≤ X) (h2 : X ≤ b0) : a1 ≤ betS a0 a1 b0 b1 X ∧ betS a0 a1 b0 b1 X ≤ b1 := by
  unfold betS
  have h3 : 0 ≤ (b1 - a1) * (X - a0) := Int.mul_nonneg (by omega) (by omega)
  have h4 : (b1 - a1) * (X - a0) ≤ (b1 - a1) * (b0 - a0) := Int.mul_le_mul_of_nonneg_left (by omega) (by omega)
  have h5 : 0 ≤ (b1 - a1) * (X - a0) / (b0 - a0) := Int.ediv_nonneg h3 (by omega)
  have h6 : (b1 - a1) * (X - a0) / (b0 - a0) ≤ (b1 - a1) * (b0 - a0) / (b0 - a0) := Int.ediv_le_ediv (by omega) h4
  rw [Int.mul_ediv_cancel _ (by omega)] at h6
  omega
theorem bet_mono {a0 a1 b0 b1 X Y : Int} (h : a0 < b0) (hy : a1 ≤ b1) (hXY : X ≤ Y) : betS a0 a1 b0 b1 X ≤ betS a0 a1 b0 b1 Y := by
  unfold betS
  have h4 : (b1 - a1) * (X - a0) ≤ (b1 - a1) * (Y - a0) := Int.mul_le_mul_of_nonneg_left (by omega) (by omega)
  have := Int.ediv_le_ediv (show 0 < b0 - a0 by omega) h4
  omega
section
variable {l : List (List Ct)} (hr : RightP l) (hs : ∀ k, k < l.length - 1 → (rd l k 1).int ≤ (rd l (k + 1) 1).int)
include hs in
theorem y_mono : ∀ {j i : Nat}, j ≤ i → i < l.length → (rd l j 1).int ≤ (rd l i 1).int := by
  intro j i hij hi
  induction i with
  | zero => obtain rfl : j = 0 := by omega
            exact Int.le_refl _
  | succ i ih =>
    by_cases h : j = i + 1
    · subst h; exact Int.le_refl _
    · have h1 := ih (by omega) (by omega)
      have h2 := hs i (by omega)
      omega
/-- Where a place lies: beside the first pin, between two, or beside the last one. -/
theorem at_where (hr : RightP l) (X : Int) : (atS l X = (rd l 0 1).int ∧ ∀ k, k < l.length → X ≤ (rd l k 0).int) ∨ (atS l X = (rd l (l.length - 1) 1).int ∧ (rd l (l.length - 1) 0).int < X) ∨
    ∃ i, i + 1 < l.length ∧ (rd l i 0).int < X ∧ X ≤ (rd l (i + 1) 0).int ∧ atS l X = betS (rd l i 0).int (rd l i 1).int (rd l (i + 1) 0).int (rd l (i + 1) 1).int X := by
  have h0 := hr.n0
  rcases last_spec (l := l) (X := X) l.length with ⟨h1, h2⟩ | ⟨i, h1, h2, h3, h4⟩
  · left
    exact ⟨by unfold atS; rw [h1, if_pos (by omega)], h2⟩
  · right
    by_cases hi : i = l.length - 1
    · left
      refine ⟨?_, by rw [← hi]; exact h3⟩
      unfold atS
      rw [h2, if_neg (by omega), if_pos (by omega), Int.toNat_natCast, hi]
    · right
      refine ⟨i, by omega, h3, h4 (i + 1) (by omega) (by omega), ?_⟩
      unfold atS
      rw [h2, if_neg (by omega), if_neg (by omega), Int.toNat_natCast]
include hr hs in
theorem at_mono {X Y : Int} (hXY : X ≤ Y) : atS l X ≤ atS l Y := by
  have h0 := hr.n0
  rcases at_where hr X with ⟨a1, a2⟩ | ⟨a1, a2⟩ | ⟨i, i1, i2, i3, i4⟩
  · rcases at_where hr Y with ⟨b1, b2⟩ | ⟨b1, b2⟩ | ⟨j, j1, j2, j3, j4⟩
    · omega
    · have := y_mono hs (j := 0) (i := l.length - 1) (by omega) (by omega); omega
    · have := y_mono hs (j := 0) (i := j) (by omega) (by omega)
      have hx := hr.mono (show j < j + 1 by omega) j1
      have := (bet_bd hx (hs j (by omega)) (by omega) j3).1
      omega
  · rcases at_where hr Y with ⟨b1, b2⟩ | ⟨b1, b2⟩ | ⟨j, j1, j2, j3, j4⟩
    · have := b2 (l.length - 1) (by omega); omega
    · omega
    · by_cases hj : j + 1 = l.length - 1
      · rw [hj] at j3; omega
      · have := hr.mono (show j + 1 < l.length - 1 by omega) (by omega); omega
  · have hx := hr.mono (show i < i + 1 by omega) i1
    have hi := bet_bd hx (hs i (by omega)) (by omega) i3
    rcases at_where hr Y with ⟨b1, b2⟩ | ⟨b1, b2⟩ | ⟨j, j1, j2, j3, j4⟩
    · have := b2 i (by omega); omega
    · have := y_mono hs (j := i + 1) (i := l.length - 1) (by omega) (by omega); omega
    · have hxj := hr.mono (show j < j + 1 by omega) j1
      have hj := bet_bd hxj (hs j (by omega)) (by omega) j3
      rcases Nat.lt_trichotomy i j with h | h | h
      · have := y_mono hs (j := i + 1) (i := j) (by omega) (by omega); omega
      · subst h
        rw [i4, j4]
        exact bet_mono hx (hs i (by omega)) hXY
      · have : (rd l (j + 1) 0).int ≤ (rd l i 0).int := by
          by_cases h' : j + 1 = i
          · subst h'; exact Int.le_refl _
          · exact Int.le_of_lt (hr.mono (show j + 1 < i by omega) (by omega))
        omega
end
theorem atV_mono {l : List (List Ct)} (h : riseV l = true) {x y : Int} (hxy : x ≤ y) : atV l x ≤ atV l y := by
  unfold riseV at h
  cases hr : rightS l with
  | false => rw [hr] at h; cases h
  | true =>
    rw [hr] at h
    unfold atV
    rw [hr]
    have hs : ∀ k, k < l.length - 1 → (rd l k 1).int ≤ (rd l (k + 1) 1).int := by
      have : riseS l = true := h
      unfold riseS at this
      simpa using this
    exact at_mono (rightS_iff.1 hr) hs (heldS_mono hxy)
/-! ### The curve that leaves all as it is -/
def sameC : List (List Ct) := [[Ct.i (Int.negSucc 16777215), Ct.i (Int.negSucc 16777215)], [Ct.i (16777216 : Int), Ct.i (16777216 : Int)]]
theorem sameC_right : RightP sameC := by
  refine ⟨by decide, by decide, fun k hk => ?_⟩
  have hk : k = 0 ∨ k = 1 := by simp [sameC] at hk; omega
  rcases hk with rfl | rfl
  · exact ⟨by decide, by decide, by decide, by decide, by decide⟩
  · exact ⟨by decide, by decide, by decide, by decide, by decide⟩
def clampW (x : Int) : Int := if (if (16777216 : Int) < x then (16777216 : Int) else x) > (-16777216 : Int) then if (16777216 : Int) < x then (16777216 : Int) else x else (-16777216 : Int)
theorem sameC_at (x : Int) : atV sameC x = clampW x := by
  unfold atV
  rw [rightS_true sameC_right]
  have hh : heldS x = max (-2147483648) (min x 2147483647) ∨ heldS x = heldS x := .inr rfl
  have p00 : (rd sameC 0 0).int = -16777216 := rfl
  have p01 : (rd sameC 0 1).int = -16777216 := rfl
  have p10 : (rd sameC 1 0).int = 16777216 := rfl
  have p11 : (rd sameC 1 1).int = 16777216 := rfl
  have hl : sameC.length = 2 := rfl
  have key : ∀ X : Int, atS sameC X = clampW X := by
    intro X
    rcases at_where sameC_right X with ⟨a1, a2⟩ | ⟨a1, a2⟩ | ⟨i, i1, i2, i3, i4⟩
    · have := a2 0 (by rw [hl]; omega)
      rw [p00] at this
      rw [a1, p01]
      unfold clampW
      repeat' split
      all_goals omega
    · rw [hl] at a1 a2
      rw [a1, p11]
      rw [show 2 - 1 = 1 from rfl, p10] at a2
      unfold clampW
      repeat' split
      all_goals omega
    · obtain rfl : i = 0 := by rw [hl] at i1; omega
      rw [p00] at i2
      rw [p10] at i3
      rw [i4, p00, p01, p10, p11]
      have : betS (-16777216) (-16777216) 16777216 16777216 X = X := by
        unfold betS
        rw [show (16777216 : Int) - -16777216 = 33554432 by rfl, Int.mul_comm, Int.mul_ediv_cancel _ (by omega)]
        omega
      rw [this]
      unfold clampW
      repeat' split
      all_goals omega
  show atS sameC (heldS x) = _
  rw [key]
  unfold clampW heldS
  repeat' split
  all_goals omega
theorem lgr_L0_is (a b c : Int) : lgr_L0_p a b c = true ∧ isL (lgr_L0_v a b c) = true := by
  have e1 : ∀ x, cat_v sameC x = clampW x := sameC_at
  have w1 : IntKind.i64.wrap (1 : Int) = 1 := by decide
  have w2 : IntKind.i64.wrap (2 : Int) = 2 := by decide
  have w3 : IntKind.i64.wrap (3 : Int) = 3 := by decide
  have f1 : lgr_c33988911 a = clampW a := e1 a
  have f2 : lgr_c11759610 b = clampW b := e1 b
  have f3 : lgr_c32715626 c = clampW c := e1 c
  have h : iter (lgr_L0_step a b c) 4 0 = some (.inl 3) := by
    simp only [iter, lgr_L0_step, f1, f2, f3]
    simp [w1, w2, w3, clampW]
  exact ⟨by unfold lgr_L0_p; rw [h]; rfl, by unfold lgr_L0_v; rw [h]; rfl⟩
/-! ### The negative of a negative -/
theorem negT_rd {k : Nat} (hk : k < 256) : (rd negT k 0).int = 255 - k := by
  unfold negT
  rw [rd_tab hk]; rfl
theorem negT_bytes : ByteL negT 1 := by
  intro i hi j hj
  obtain rfl : j = 0 := by omega
  rw [negT_rd (by simpa [negT, tab_length] using hi)]
  have : i < 256 := by simpa [negT, tab_length] using hi
  omega
theorem negT_length : negT.length = 256 := tab_length _ _
theorem apply_neg {d : List (List Ct)} (hb : ByteL d 3) {k j : Nat} (hk : k < d.length) (hj : j < 3) : (rd (applyT negT d) k j).int = 255 - (rd d k j).int := by
  rw [rd_apply hk hj]
  obtain ⟨h1, h2⟩ := hb k hk j hj
  show (rd negT _ 0).int = _
  rw [negT_rd (by omega)]
  omega
theorem apply_neg_bytes {d : List (List Ct)} (hb : ByteL d 3) : ByteL (applyT negT d) 3 := by
  intro i hi j hj
  rw [applyT_length] at hi
  rw [apply_neg hb hi hj]
  have := hb i hi j hj
  omega
theorem same_negneg {d : List (List Ct)} (hb : ByteL d 3) (w h : Int) : psaS w h (applyT negT (applyT negT d)) w h d = true := by
  have hl : (applyT negT (applyT negT d)).length = d.length := by rw [applyT_length, applyT_length]
  have hn : findB (unlike (applyT negT (applyT negT d)) d) (applyT negT (applyT negT d)).length 0 = none := by
    rw [findB_none]
    intro j _ hj
    rw [hl, Nat.zero_add] at hj
    have e : ∀ c, c < 3 → (rd (applyT negT (applyT negT d)) j c).int = (rd d j c).int := fun c hc => by
      rw [apply_neg (apply_neg_bytes hb) (by rw [applyT_length]; exact hj) hc, apply_neg hb hj hc]; omega
    simp [unlike, e 0 (by omega), e 1 (by omega), e 2 (by omega)]
  unfold psaS
  rw [hn]
  simp [hl]
theorem byteL_of {d : List (List Ct)} (hw : ∀ i, i < d.length → ∀ (j : Nat) s, [Sh.int IntKind.u8, Sh.int IntKind.u8, Sh.int IntKind.u8][j]? = some s → CtWf 7 s (rd d i j)) : ByteL d 3 := by
  intro i hi j hj
  have hj' : j = 0 ∨ j = 1 ∨ j = 2 := by omega
  have h := hw i hi
  have key : ∀ c : Ct, (Lit.int .u8 c.int).wf = true → 0 ≤ c.int ∧ c.int < 256 := by
    intro c hc
    have mn : IntKind.u8.min = 0 := by decide
    have mx : IntKind.u8.max = 255 := by decide
    simp only [Lit.wf, mn, mx, Bool.and_eq_true, decide_eq_true_eq] at hc
    omega
  rcases hj' with rfl | rfl | rfl
  · exact key _ (h 0 _ rfl)
  · exact key _ (h 1 _ rfl)
  · exact key _ (h 2 _ rfl)
theorem lgr_true (x0 : List (List Ct)) (x1 x2 x3_0 x3_1 x3_2 x4_0 x4_1 : Int) (x4_2 : List (List Ct)) (hw : ∀ i, i < x4_2.length → ∀ (j : Nat) s, [Sh.int IntKind.u8, Sh.int IntKind.u8, Sh.int IntKind.u8][j]? = some s → CtWf 7 s (rd x4_2 i j)) : lgr_res x0 x1 x2 x3_0 x3_1 x3_2 x4_0 x4_1 x4_2 = some true := by
  have hb : ByteL x4_2 3 := byteL_of hw
  unfold lgr_res
  by_cases h40 : x0.length ≤ 40
  rotate_left
  · have : (40 : Int) < x0.length := by omega
    simp [this, -List.reduceReplicate]
  by_cases h50 : x4_2.length ≤ 5000
  rotate_left
  · have : (5000 : Int) < x4_2.length := by omega
    simp [this, -List.reduceReplicate]
  have g1 : ¬ (40 : Int) < x0.length := by omega
  have g2 : ¬ (5000 : Int) < x4_2.length := by omega
  have hl : (gto_v x0).length = x0.length := (gto_same x0).len
  have g3 : x0.length ≤ 1000 := by omega
  obtain ⟨n1, n2⟩ := neg_is
  have n3 : neg_L0_v.snd = negT := by rw [n2]
  obtain ⟨l1, l2⟩ := lgr_L0_is x3_0 x3_1 x3_2
  have r0 : (rd negT (Int.toNat 0) 0).int = 255 := negT_rd (k := 0) (by omega)
  have c8 : lgr_c83422349 = thenT negT negT := by
    show then_v neg_L0_v.snd neg_L0_v.snd = _
    rw [n3]; rfl
  have r7 : (rd lgr_c83422349 (Int.toNat 7) 0).int = 7 := by
    rw [c8]
    unfold thenT
    rw [show Int.toNat 7 = 7 from rfl, rd_tab (by omega)]
    show (rd negT (rd negT 7 0).int.toNat 0).int = 7
    rw [negT_rd (k := 7) (by omega)]
    exact negT_rd (k := 248) (by omega)
  have bn : byteB negT 1 = true := byteB_iff.2 negT_bytes
  have bd : byteB x4_2 3 = true := byteB_iff.2 hb
  have hfall : (bif lgr_c54881943 x0 then decide (lgr_c19931126 x0 x1 x2 > lgr_c76438016 x0 x1 x2) else false) = false := by
    cases hq : lgr_c54881943 x0 with
    | false => rfl
    | true =>
      have hq' : riseV (gto_v x0) = true := hq
      have : lgr_c19931126 x0 x1 x2 ≤ lgr_c76438016 x0 x1 x2 := atV_mono hq' (by split <;> split <;> omega)
      simp only [cond_true, decide_eq_false_iff_not]
      omega
  have pl : (0 : Int) < 256 ∧ (0 : Int) < (negT.length : Int) := by rw [negT_length]; omega
  simp only [n3, hfall, l1, l2, hl, r0, r7, bn]
  have t1 : (bif decide ((x0.length : Int) > 40) then true else decide ((x4_2.length : Int) > 5000)) = false := by simp [g1, g2]
  have t2 : decide (x0.length ≤ 1000) = true := by simp; omega
  have e0 : (bif bif decide (x4_0 ≥ (1 : Int)) then bif decide (x4_0 ≤ (64 : Int)) then bif decide (x4_1 ≥ (1 : Int)) then decide (x4_1 ≤ (64 : Int)) else false else false else false then ((x4_2.length : Nat) : Int) == IntKind.i64.wrap (x4_0 * x4_1) else false) = picB x4_0 x4_1 x4_2 := rfl
  rw [t1, t2, e0]
  have lr : (List.replicate 256 [Ct.i 0]).length = 256 := List.length_replicate ..
  have nl := negT_length
  have le256 : decide (256 ≤ negT.length) = true := by rw [nl]; rfl
  have eq256 : decide (negT.length = 256) = true := by rw [nl]; rfl
  have i07 : decide ((0 : Int) ≤ 7 ∧ (7 : Int) < 256) = true := rfl
  have i00 : decide ((0 : Int) ≤ 0 ∧ (0 : Int) < 256 ∧ (0 : Int) < (negT.length : Int)) = true := by rw [nl]; rfl
  have i00' : decide ((0 : Int) ≤ 0 ∧ (0 : Int) < ((256 : Nat) : Int) ∧ (0 : Int) < (negT.length : Int)) = true := by rw [nl]; rfl
  have i07' : decide ((0 : Int) ≤ 7 ∧ (7 : Int) < ((256 : Nat) : Int)) = true := rfl
  have two : decide ((List.replicate 256 [Ct.i 0]).length = 256 ∧ negT.length = 256) = true := by rw [lr, nl]; rfl
  have b1 : ((255 : Int) != 255) = false := rfl
  have b2 : ((7 : Int) != 7) = false := rfl
  have b3 : ((255 : Int) == 255) = true := rfl
  have b4 : ((7 : Int) == 7) = true := rfl
  have o1 : decide (0 + x4_2.length ≤ 9223372036854775807 ∧ (0 + x4_2.length) * 3 ≤ 140737488355328) = true := by simp; omega
  have e1 : ([] : List (List Ct)) ++ x4_2 = x4_2 := rfl
  have d5 : decide (x4_2.length ≤ 5000) = true := by simp [h50]
  simp only [two, i00, i00', i07, i07', b1, b2, b3, b4, le256, eq256, Bool.true_and, Bool.and_true, cond_true, cond_false, o1, e1, bd, d5]
  cases hp : picB x4_0 x4_1 x4_2 with
  | false => rfl
  | true =>
    have f1 : lgr_c81922470 x4_0 x4_1 x4_2 = (x4_0, x4_1, 0, applyT negT x4_2) := by
      show tap_v neg_L0_v.snd x4_0 x4_1 ([] ++ x4_2) = _
      rw [n3]
      show (bif picB x4_0 x4_1 x4_2 then _ else _) = _
      rw [hp]; rfl
    have al : (applyT negT x4_2).length = x4_2.length := applyT_length
    have hp2 : picB x4_0 x4_1 (applyT negT x4_2) = true := by
      have : picB x4_0 x4_1 (applyT negT x4_2) = picB x4_0 x4_1 x4_2 := by unfold picB; rw [al]
      rw [this, hp]
    have f2 : lgr_c50954058 x4_0 x4_1 x4_2 = (x4_0, x4_1, 0, applyT negT (applyT negT x4_2)) := by
      show tap_v neg_L0_v.snd (lgr_c81922470 x4_0 x4_1 x4_2).fst (lgr_c81922470 x4_0 x4_1 x4_2).snd.fst (lgr_c81922470 x4_0 x4_1 x4_2).snd.snd.snd = _
      rw [n3, f1]
      show (bif picB x4_0 x4_1 (applyT negT x4_2) then _ else _) = _
      rw [hp2]; rfl
    have f3 : lgr_c24371072 x4_0 x4_1 x4_2 = true := by
      show psa_v _ _ _ _ _ _ = _
      rw [f2]
      exact same_negneg hb _ _
    have ba : byteB (applyT negT x4_2) 3 = true := byteB_iff.2 (apply_neg_bytes hb)
    have aal : (applyT negT (applyT negT x4_2)).length = x4_2.length := by rw [applyT_length, al]
    have o2 : decide ((applyT negT x4_2).length ≤ 5000) = true := by rw [al]; exact d5
    have o3 : decide ((applyT negT (applyT negT x4_2)).length < 9223372036854775807) = true := by rw [aal]; simp; omega
    have z : ((0 : Int) == 0) = true := rfl
    simp only [f1, f2, f3, ba, o2, o3, z, cond_true, Bool.true_and, Bool.not_true, cond_false]
theorem lgr_call (x0 : List (List Ct)) (x1 x2 x3_0 x3_1 x3_2 x4_0 x4_1 : Int) (x4_2 : List (List Ct)) (hw : ∀ i, i < x4_2.length → ∀ (j : Nat) s, [Sh.int IntKind.u8, Sh.int IntKind.u8, Sh.int IntKind.u8][j]? = some s → CtWf 7 s (rd x4_2 i j)) : CallOk Try.prog 4 [.sv (.one (.ext 0)), .sv (.one (.val false (.int .i64 x1))), .sv (.one (.val false (.int .i64 x2))), .sv (.agg [.val false (.int .i64 x3_0), .val false (.int .i64 x3_1), .val false (.int .i64 x3_2)]), .sv (.agg [.val false (.int .i64 x4_0), .val false (.int .i64 x4_1), .ext 1])] [(0, .grid [.int .i64, .int .i64] x0), (1, .grid [.int .u8, .int .u8, .int .u8] x4_2)] 2 (lgr_O true) := lgr_tree (lgr_true x0 x1 x2 x3_0 x3_1 x3_2 x4_0 x4_1 x4_2 hw)
end Go.Proofs.Ytonlllijdbjkaaa
