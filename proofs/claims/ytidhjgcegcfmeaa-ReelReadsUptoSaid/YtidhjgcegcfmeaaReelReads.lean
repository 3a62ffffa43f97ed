/- The law ReelReads: it answers true for all values of bulk. The bound is the statement's own. -/
import Derived.Test.YtidhjgcegcfmeaaMirror
import Derived.Test.YtidhjgcegcfmeaaReelReadsT
import Derived.Test.YtidhjgcegcfmeaaOpen
set_option linter.unusedVariables false
set_option linter.unusedSimpArgs false
namespace Go.Proofs.Ytidhjgcegcfmeaa
open Go.RowKit

theorem left_like {B b : List (List Ct)} {e At E : Int} (hl : B.length ≤ 1048576) (h : Like B b e At E) : (E ≠ 0 → ((b.length : Int) == 0) = true) ∧ (E = 0 → ((b.length : Int) == IntKind.i64.wrap ((B.length : Int) - At)) = true) := by
  refine ⟨fun he => by rw [h.bad he]; rfl, fun he => ?_⟩
  obtain ⟨a, rfl, hal, hc⟩ := h.ok he
  have hb : b.length = B.length - a := by rw [← col_length, hc, List.length_drop, col_length]
  rw [wrap_in (by omega) (by omega), hb]
  simp
  omega
theorem fin_like {B b : List (List Ct)} {e At E : Int} (hl : B.length ≤ 1048576) (h : Like B b e At E) {x : Option (Bool × Int × Int × Int × List (List Ct))} :
    (bif (e == E) then (bif (E != (0 : Int)) then (some ((b.length : Int) == (0 : Int), e, At, E, b)) else some ((b.length : Int) == IntKind.i64.wrap ((B.length : Int) - At), e, At, E, b)) else x) = some (true, e, At, E, b) := by
  obtain ⟨h1, h2⟩ := left_like hl h
  rw [show (e == E) = true by simpa using h.e, cond_true, bif_ne0]
  by_cases he : E = 0
  · rw [if_pos he, h2 he]
  · rw [if_neg he, h1 he]
def ReadsAs (B : List (List Ct)) (o : Option (Bool × Int × Int × Int × List (List Ct))) : Prop := ∃ e At E b, o = some (true, e, At, E, b) ∧ Like B b e At E
theorem rds_0 {B b : List (List Ct)} {e At E : Int} (hB : Byt (col B)) (hl : B.length ≤ 1048576) (h : Like B b e At E) (x2_1 : Int) (x2_2 : Int) (x2_3 : Int) (x2_4 : Int) (x2_5 : Int) (x2_6 : Int) (x2_7 : Int) (x2_8 : Int) (x2_9 : Int) (x2_10 : Int) (x2_11 : Int) (x2_12 : Int) (x2_13 : Int) (x2_14 : Int) (x2_15 : Int) (x2_16 : Int) (x2_17 : Int) (x2_18 : Int) (x2_19 : Int) (x2_20 : Int) (x2_21 : Int) (x2_22 : Int) (x2_23 : Int) (x2_24 : Int) (x2_25 : Int) (x2_26 : Int) (x2_27 : Int) (x2_28 : Int) (x2_29 : Int) (x2_30 : Int) (x2_31 : Int) (x2_32 : Int) (x2_33 : Int) (x2_34 : Int) (x2_35 : Int) (x2_36 : Int) (x2_37 : List (List Ct)) (x2_38 : Int) : ReadsAs B (rds_res b e B At E (0 : Int) x2_1 x2_2 x2_3 x2_4 x2_5 x2_6 x2_7 x2_8 x2_9 x2_10 x2_11 x2_12 x2_13 x2_14 x2_15 x2_16 x2_17 x2_18 x2_19 x2_20 x2_21 x2_22 x2_23 x2_24 x2_25 x2_26 x2_27 x2_28 x2_29 x2_30 x2_31 x2_32 x2_33 x2_34 x2_35 x2_36 x2_37 x2_38) := by
  obtain ⟨v, e', b', At', E', ⟨r1, r2⟩, ⟨m1, m2⟩, _, hL⟩ := raw_like hB hl h (n := 1) (by omega)
  rw [show ((1 : Nat) : Int) = 1 from rfl] at r1 r2 m1 m2
  have s1 : rby_res b e = some (IntKind.i64.wrap v, e', b') := by unfold rby_res; rw [r1, r2]; rfl
  have s2 : rby_v b e = (IntKind.i64.wrap v, e', b') := by unfold rby_v; rw [s1]; rfl
  refine ⟨e', At', E', b', ?_, hL⟩
  unfold rds_res
  simp only [show ((0 : Int) == (0 : Int)) = true from rfl, show ((0 : Int) == (1 : Int)) = false from rfl, show ((0 : Int) == (2 : Int)) = false from rfl, show ((0 : Int) == (3 : Int)) = false from rfl, show ((0 : Int) == (4 : Int)) = false from rfl, show ((0 : Int) == (5 : Int)) = false from rfl, show ((0 : Int) == (6 : Int)) = false from rfl, show ((0 : Int) == (7 : Int)) = false from rfl, show ((0 : Int) == (8 : Int)) = false from rfl, show ((0 : Int) == (9 : Int)) = false from rfl, show ((0 : Int) == (10 : Int)) = false from rfl, cond_true, cond_false, s1, s2, m1, m2, Option.isSome_some, beq_self_eq_true]
  exact fin_like hl hL
theorem rds_1 {B b : List (List Ct)} {e At E : Int} (hB : Byt (col B)) (hl : B.length ≤ 1048576) (h : Like B b e At E) (x2_1 : Int) (x2_2 : Int) (x2_3 : Int) (x2_4 : Int) (x2_5 : Int) (x2_6 : Int) (x2_7 : Int) (x2_8 : Int) (x2_9 : Int) (x2_10 : Int) (x2_11 : Int) (x2_12 : Int) (x2_13 : Int) (x2_14 : Int) (x2_15 : Int) (x2_16 : Int) (x2_17 : Int) (x2_18 : Int) (x2_19 : Int) (x2_20 : Int) (x2_21 : Int) (x2_22 : Int) (x2_23 : Int) (x2_24 : Int) (x2_25 : Int) (x2_26 : Int) (x2_27 : Int) (x2_28 : Int) (x2_29 : Int) (x2_30 : Int) (x2_31 : Int) (x2_32 : Int) (x2_33 : Int) (x2_34 : Int) (x2_35 : Int) (x2_36 : Int) (x2_37 : List (List Ct)) (x2_38 : Int) : ReadsAs B (rds_res b e B At E (1 : Int) x2_1 x2_2 x2_3 x2_4 x2_5 x2_6 x2_7 x2_8 x2_9 x2_10 x2_11 x2_12 x2_13 x2_14 x2_15 x2_16 x2_17 x2_18 x2_19 x2_20 x2_21 x2_22 x2_23 x2_24 x2_25 x2_26 x2_27 x2_28 x2_29 x2_30 x2_31 x2_32 x2_33 x2_34 x2_35 x2_36 x2_37 x2_38) := by
  obtain ⟨v, e', b', At', E', ⟨r1, r2⟩, ⟨m1, m2⟩, _, hL⟩ := raw_like hB hl h (n := 2) (by omega)
  rw [show ((2 : Nat) : Int) = 2 from rfl] at r1 r2 m1 m2
  have s1 : rha_res b e = some (IntKind.i64.wrap v, e', b') := by unfold rha_res; rw [r1, r2]; rfl
  have s2 : rha_v b e = (IntKind.i64.wrap v, e', b') := by unfold rha_v; rw [s1]; rfl
  refine ⟨e', At', E', b', ?_, hL⟩
  unfold rds_res
  simp only [show ((1 : Int) == (0 : Int)) = false from rfl, show ((1 : Int) == (1 : Int)) = true from rfl, show ((1 : Int) == (2 : Int)) = false from rfl, show ((1 : Int) == (3 : Int)) = false from rfl, show ((1 : Int) == (4 : Int)) = false from rfl, show ((1 : Int) == (5 : Int)) = false from rfl, show ((1 : Int) == (6 : Int)) = false from rfl, show ((1 : Int) == (7 : Int)) = false from rfl, show ((1 : Int) == (8 : Int)) = false from rfl, show ((1 : Int) == (9 : Int)) = false from rfl, show ((1 : Int) == (10 : Int)) = false from rfl, cond_true, cond_false, s1, s2, m1, m2, Option.isSome_some, beq_self_eq_true]
  exact fin_like hl hL
theorem rds_2 {B b : List (List Ct)} {e At E : Int} (hB : Byt (col B)) (hl : B.length ≤ 1048576) (h : Like B b e At E) (x2_1 : Int) (x2_2 : Int) (x2_3 : Int) (x2_4 : Int) (x2_5 : Int) (x2_6 : Int) (x2_7 : Int) (x2_8 : Int) (x2_9 : Int) (x2_10 : Int) (x2_11 : Int) (x2_12 : Int) (x2_13 : Int) (x2_14 : Int) (x2_15 : Int) (x2_16 : Int) (x2_17 : Int) (x2_18 : Int) (x2_19 : Int) (x2_20 : Int) (x2_21 : Int) (x2_22 : Int) (x2_23 : Int) (x2_24 : Int) (x2_25 : Int) (x2_26 : Int) (x2_27 : Int) (x2_28 : Int) (x2_29 : Int) (x2_30 : Int) (x2_31 : Int) (x2_32 : Int) (x2_33 : Int) (x2_34 : Int) (x2_35 : Int) (x2_36 : Int) (x2_37 : List (List Ct)) (x2_38 : Int) : ReadsAs B (rds_res b e B At E (2 : Int) x2_1 x2_2 x2_3 x2_4 x2_5 x2_6 x2_7 x2_8 x2_9 x2_10 x2_11 x2_12 x2_13 x2_14 x2_15 x2_16 x2_17 x2_18 x2_19 x2_20 x2_21 x2_22 x2_23 x2_24 x2_25 x2_26 x2_27 x2_28 x2_29 x2_30 x2_31 x2_32 x2_33 x2_34 x2_35 x2_36 x2_37 x2_38) := by
  obtain ⟨v, e', b', At', E', ⟨r1, r2⟩, ⟨m1, m2⟩, _, hL⟩ := raw_like hB hl h (n := 4) (by omega)
  rw [show ((4 : Nat) : Int) = 4 from rfl] at r1 r2 m1 m2
  have s1 : rwo_res b e = some (IntKind.i64.wrap v, e', b') := by unfold rwo_res; rw [r1, r2]; rfl
  have s2 : rwo_v b e = (IntKind.i64.wrap v, e', b') := by unfold rwo_v; rw [s1]; rfl
  refine ⟨e', At', E', b', ?_, hL⟩
  unfold rds_res
  simp only [show ((2 : Int) == (0 : Int)) = false from rfl, show ((2 : Int) == (1 : Int)) = false from rfl, show ((2 : Int) == (2 : Int)) = true from rfl, show ((2 : Int) == (3 : Int)) = false from rfl, show ((2 : Int) == (4 : Int)) = false from rfl, show ((2 : Int) == (5 : Int)) = false from rfl, show ((2 : Int) == (6 : Int)) = false from rfl, show ((2 : Int) == (7 : Int)) = false from rfl, show ((2 : Int) == (8 : Int)) = false from rfl, show ((2 : Int) == (9 : Int)) = false from rfl, show ((2 : Int) == (10 : Int)) = false from rfl, cond_true, cond_false, s1, s2, m1, m2, Option.isSome_some, beq_self_eq_true]
  exact fin_like hl hL
theorem rds_3 {B b : List (List Ct)} {e At E : Int} (hB : Byt (col B)) (hl : B.length ≤ 1048576) (h : Like B b e At E) (x2_1 : Int) (x2_2 : Int) (x2_3 : Int) (x2_4 : Int) (x2_5 : Int) (x2_6 : Int) (x2_7 : Int) (x2_8 : Int) (x2_9 : Int) (x2_10 : Int) (x2_11 : Int) (x2_12 : Int) (x2_13 : Int) (x2_14 : Int) (x2_15 : Int) (x2_16 : Int) (x2_17 : Int) (x2_18 : Int) (x2_19 : Int) (x2_20 : Int) (x2_21 : Int) (x2_22 : Int) (x2_23 : Int) (x2_24 : Int) (x2_25 : Int) (x2_26 : Int) (x2_27 : Int) (x2_28 : Int) (x2_29 : Int) (x2_30 : Int) (x2_31 : Int) (x2_32 : Int) (x2_33 : Int) (x2_34 : Int) (x2_35 : Int) (x2_36 : Int) (x2_37 : List (List Ct)) (x2_38 : Int) : ReadsAs B (rds_res b e B At E (3 : Int) x2_1 x2_2 x2_3 x2_4 x2_5 x2_6 x2_7 x2_8 x2_9 x2_10 x2_11 x2_12 x2_13 x2_14 x2_15 x2_16 x2_17 x2_18 x2_19 x2_20 x2_21 x2_22 x2_23 x2_24 x2_25 x2_26 x2_27 x2_28 x2_29 x2_30 x2_31 x2_32 x2_33 x2_34 x2_35 x2_36 x2_37 x2_38) := by
  obtain ⟨v, e', b', At', E', ⟨r1, r2⟩, ⟨m1, m2⟩, _, hL⟩ := raw_like hB hl h (n := 8) (by omega)
  rw [show ((8 : Nat) : Int) = 8 from rfl] at r1 r2 m1 m2
  have s1 : rlo_res b e = some (v, e', b') := by unfold rlo_res; rw [r1, r2]; rfl
  have s2 : rlo_v b e = (v, e', b') := by unfold rlo_v; rw [s1]; rfl
  refine ⟨e', At', E', b', ?_, hL⟩
  unfold rds_res
  simp only [show ((3 : Int) == (0 : Int)) = false from rfl, show ((3 : Int) == (1 : Int)) = false from rfl, show ((3 : Int) == (2 : Int)) = false from rfl, show ((3 : Int) == (3 : Int)) = true from rfl, show ((3 : Int) == (4 : Int)) = false from rfl, show ((3 : Int) == (5 : Int)) = false from rfl, show ((3 : Int) == (6 : Int)) = false from rfl, show ((3 : Int) == (7 : Int)) = false from rfl, show ((3 : Int) == (8 : Int)) = false from rfl, show ((3 : Int) == (9 : Int)) = false from rfl, show ((3 : Int) == (10 : Int)) = false from rfl, cond_true, cond_false, s1, s2, m1, m2, Option.isSome_some, beq_self_eq_true]
  exact fin_like hl hL
theorem rds_4 {B b : List (List Ct)} {e At E : Int} (hB : Byt (col B)) (hl : B.length ≤ 1048576) (h : Like B b e At E) (x2_1 : Int) (x2_2 : Int) (x2_3 : Int) (x2_4 : Int) (x2_5 : Int) (x2_6 : Int) (x2_7 : Int) (x2_8 : Int) (x2_9 : Int) (x2_10 : Int) (x2_11 : Int) (x2_12 : Int) (x2_13 : Int) (x2_14 : Int) (x2_15 : Int) (x2_16 : Int) (x2_17 : Int) (x2_18 : Int) (x2_19 : Int) (x2_20 : Int) (x2_21 : Int) (x2_22 : Int) (x2_23 : Int) (x2_24 : Int) (x2_25 : Int) (x2_26 : Int) (x2_27 : Int) (x2_28 : Int) (x2_29 : Int) (x2_30 : Int) (x2_31 : Int) (x2_32 : Int) (x2_33 : Int) (x2_34 : Int) (x2_35 : Int) (x2_36 : Int) (x2_37 : List (List Ct)) (x2_38 : Int) : ReadsAs B (rds_res b e B At E (4 : Int) x2_1 x2_2 x2_3 x2_4 x2_5 x2_6 x2_7 x2_8 x2_9 x2_10 x2_11 x2_12 x2_13 x2_14 x2_15 x2_16 x2_17 x2_18 x2_19 x2_20 x2_21 x2_22 x2_23 x2_24 x2_25 x2_26 x2_27 x2_28 x2_29 x2_30 x2_31 x2_32 x2_33 x2_34 x2_35 x2_36 x2_37 x2_38) := by
  obtain ⟨v, e', b', At', E', ⟨r1, r2⟩, ⟨m1, m2⟩, hL⟩ := fix_like hB hl h
  refine ⟨e', At', E', b', ?_, hL⟩
  unfold rds_res
  simp only [show ((4 : Int) == (0 : Int)) = false from rfl, show ((4 : Int) == (1 : Int)) = false from rfl, show ((4 : Int) == (2 : Int)) = false from rfl, show ((4 : Int) == (3 : Int)) = false from rfl, show ((4 : Int) == (4 : Int)) = true from rfl, show ((4 : Int) == (5 : Int)) = false from rfl, show ((4 : Int) == (6 : Int)) = false from rfl, show ((4 : Int) == (7 : Int)) = false from rfl, show ((4 : Int) == (8 : Int)) = false from rfl, show ((4 : Int) == (9 : Int)) = false from rfl, show ((4 : Int) == (10 : Int)) = false from rfl, cond_true, cond_false, r1, r2, m1, m2, Option.isSome_some, beq_self_eq_true]
  exact fin_like hl hL
theorem rds_5 {B b : List (List Ct)} {e At E : Int} (hB : Byt (col B)) (hl : B.length ≤ 1048576) (h : Like B b e At E) (x2_1 : Int) (x2_2 : Int) (x2_3 : Int) (x2_4 : Int) (x2_5 : Int) (x2_6 : Int) (x2_7 : Int) (x2_8 : Int) (x2_9 : Int) (x2_10 : Int) (x2_11 : Int) (x2_12 : Int) (x2_13 : Int) (x2_14 : Int) (x2_15 : Int) (x2_16 : Int) (x2_17 : Int) (x2_18 : Int) (x2_19 : Int) (x2_20 : Int) (x2_21 : Int) (x2_22 : Int) (x2_23 : Int) (x2_24 : Int) (x2_25 : Int) (x2_26 : Int) (x2_27 : Int) (x2_28 : Int) (x2_29 : Int) (x2_30 : Int) (x2_31 : Int) (x2_32 : Int) (x2_33 : Int) (x2_34 : Int) (x2_35 : Int) (x2_36 : Int) (x2_37 : List (List Ct)) (x2_38 : Int) : ReadsAs B (rds_res b e B At E (5 : Int) x2_1 x2_2 x2_3 x2_4 x2_5 x2_6 x2_7 x2_8 x2_9 x2_10 x2_11 x2_12 x2_13 x2_14 x2_15 x2_16 x2_17 x2_18 x2_19 x2_20 x2_21 x2_22 x2_23 x2_24 x2_25 x2_26 x2_27 x2_28 x2_29 x2_30 x2_31 x2_32 x2_33 x2_34 x2_35 x2_36 x2_37 x2_38) := by
  obtain ⟨x, y, z, e', b', At', E', ⟨r1, r2⟩, ⟨u1, u2⟩, ⟨m1, m2⟩, hL⟩ := vec_like hB hl h
  refine ⟨e', At', E', b', ?_, hL⟩
  unfold rds_res
  simp only [show ((5 : Int) == (0 : Int)) = false from rfl, show ((5 : Int) == (1 : Int)) = false from rfl, show ((5 : Int) == (2 : Int)) = false from rfl, show ((5 : Int) == (3 : Int)) = false from rfl, show ((5 : Int) == (4 : Int)) = false from rfl, show ((5 : Int) == (5 : Int)) = true from rfl, show ((5 : Int) == (6 : Int)) = false from rfl, show ((5 : Int) == (7 : Int)) = false from rfl, show ((5 : Int) == (8 : Int)) = false from rfl, show ((5 : Int) == (9 : Int)) = false from rfl, show ((5 : Int) == (10 : Int)) = false from rfl, cond_true, cond_false, r1, r2, u1, u2, m1, m2, Option.isSome_some, beq_self_eq_true, Bool.and_self]
  exact fin_like hl hL
theorem rds_6 {B b : List (List Ct)} {e At E : Int} (hB : Byt (col B)) (hl : B.length ≤ 1048576) (h : Like B b e At E) (x2_1 : Int) (x2_2 : Int) (x2_3 : Int) (x2_4 : Int) (x2_5 : Int) (x2_6 : Int) (x2_7 : Int) (x2_8 : Int) (x2_9 : Int) (x2_10 : Int) (x2_11 : Int) (x2_12 : Int) (x2_13 : Int) (x2_14 : Int) (x2_15 : Int) (x2_16 : Int) (x2_17 : Int) (x2_18 : Int) (x2_19 : Int) (x2_20 : Int) (x2_21 : Int) (x2_22 : Int) (x2_23 : Int) (x2_24 : Int) (x2_25 : Int) (x2_26 : Int) (x2_27 : Int) (x2_28 : Int) (x2_29 : Int) (x2_30 : Int) (x2_31 : Int) (x2_32 : Int) (x2_33 : Int) (x2_34 : Int) (x2_35 : Int) (x2_36 : Int) (x2_37 : List (List Ct)) (x2_38 : Int) : ReadsAs B (rds_res b e B At E (6 : Int) x2_1 x2_2 x2_3 x2_4 x2_5 x2_6 x2_7 x2_8 x2_9 x2_10 x2_11 x2_12 x2_13 x2_14 x2_15 x2_16 x2_17 x2_18 x2_19 x2_20 x2_21 x2_22 x2_23 x2_24 x2_25 x2_26 x2_27 x2_28 x2_29 x2_30 x2_31 x2_32 x2_33 x2_34 x2_35 x2_36 x2_37 x2_38) := by
  obtain ⟨x, y, z, e', b', At', E', ⟨r1, r2⟩, ⟨u1, u2⟩, ⟨m1, m2⟩, hL⟩ := vec_like hB hl h
  refine ⟨e', At', E', b', ?_, hL⟩
  unfold rds_res
  simp only [show ((6 : Int) == (0 : Int)) = false from rfl, show ((6 : Int) == (1 : Int)) = false from rfl, show ((6 : Int) == (2 : Int)) = false from rfl, show ((6 : Int) == (3 : Int)) = false from rfl, show ((6 : Int) == (4 : Int)) = false from rfl, show ((6 : Int) == (5 : Int)) = false from rfl, show ((6 : Int) == (6 : Int)) = true from rfl, show ((6 : Int) == (7 : Int)) = false from rfl, show ((6 : Int) == (8 : Int)) = false from rfl, show ((6 : Int) == (9 : Int)) = false from rfl, show ((6 : Int) == (10 : Int)) = false from rfl, cond_true, cond_false, r1, r2, u1, u2, m1, m2, Option.isSome_some, beq_self_eq_true, Bool.and_self]
  exact fin_like hl hL
theorem rds_7 {B b : List (List Ct)} {e At E : Int} (hB : Byt (col B)) (hl : B.length ≤ 1048576) (h : Like B b e At E) (x2_1 : Int) (x2_2 : Int) (x2_3 : Int) (x2_4 : Int) (x2_5 : Int) (x2_6 : Int) (x2_7 : Int) (x2_8 : Int) (x2_9 : Int) (x2_10 : Int) (x2_11 : Int) (x2_12 : Int) (x2_13 : Int) (x2_14 : Int) (x2_15 : Int) (x2_16 : Int) (x2_17 : Int) (x2_18 : Int) (x2_19 : Int) (x2_20 : Int) (x2_21 : Int) (x2_22 : Int) (x2_23 : Int) (x2_24 : Int) (x2_25 : Int) (x2_26 : Int) (x2_27 : Int) (x2_28 : Int) (x2_29 : Int) (x2_30 : Int) (x2_31 : Int) (x2_32 : Int) (x2_33 : Int) (x2_34 : Int) (x2_35 : Int) (x2_36 : Int) (x2_37 : List (List Ct)) (x2_38 : Int) : ReadsAs B (rds_res b e B At E (7 : Int) x2_1 x2_2 x2_3 x2_4 x2_5 x2_6 x2_7 x2_8 x2_9 x2_10 x2_11 x2_12 x2_13 x2_14 x2_15 x2_16 x2_17 x2_18 x2_19 x2_20 x2_21 x2_22 x2_23 x2_24 x2_25 x2_26 x2_27 x2_28 x2_29 x2_30 x2_31 x2_32 x2_33 x2_34 x2_35 x2_36 x2_37 x2_38) := by
  obtain ⟨a0, a1, a2, a3, a4, a5, a6, a7, a8, a9, a10, a11, a12, a13, a14, a15, a16, a17, a18, a19, a20, a21, a22, a23, a24, a25, a26, a27, a28, a29, a30, a31, e', b', At', E', ⟨r1, r2⟩, ⟨m1, m2⟩, hL⟩ := sum_like hl h
  refine ⟨e', At', E', b', ?_, hL⟩
  unfold rds_res
  simp only [show ((7 : Int) == (0 : Int)) = false from rfl, show ((7 : Int) == (1 : Int)) = false from rfl, show ((7 : Int) == (2 : Int)) = false from rfl, show ((7 : Int) == (3 : Int)) = false from rfl, show ((7 : Int) == (4 : Int)) = false from rfl, show ((7 : Int) == (5 : Int)) = false from rfl, show ((7 : Int) == (6 : Int)) = false from rfl, show ((7 : Int) == (7 : Int)) = true from rfl, show ((7 : Int) == (8 : Int)) = false from rfl, show ((7 : Int) == (9 : Int)) = false from rfl, show ((7 : Int) == (10 : Int)) = false from rfl, cond_true, cond_false, r1, r2, m1, m2, Option.isSome_some, beq_self_eq_true, Bool.and_self]
  exact fin_like hl hL
theorem rds_8 {B b : List (List Ct)} {e At E : Int} (hB : Byt (col B)) (hl : B.length ≤ 1048576) (h : Like B b e At E) (x2_1 : Int) (x2_2 : Int) (x2_3 : Int) (x2_4 : Int) (x2_5 : Int) (x2_6 : Int) (x2_7 : Int) (x2_8 : Int) (x2_9 : Int) (x2_10 : Int) (x2_11 : Int) (x2_12 : Int) (x2_13 : Int) (x2_14 : Int) (x2_15 : Int) (x2_16 : Int) (x2_17 : Int) (x2_18 : Int) (x2_19 : Int) (x2_20 : Int) (x2_21 : Int) (x2_22 : Int) (x2_23 : Int) (x2_24 : Int) (x2_25 : Int) (x2_26 : Int) (x2_27 : Int) (x2_28 : Int) (x2_29 : Int) (x2_30 : Int) (x2_31 : Int) (x2_32 : Int) (x2_33 : Int) (x2_34 : Int) (x2_35 : Int) (x2_36 : Int) (x2_37 : List (List Ct)) (x2_38 : Int) : ReadsAs B (rds_res b e B At E (8 : Int) x2_1 x2_2 x2_3 x2_4 x2_5 x2_6 x2_7 x2_8 x2_9 x2_10 x2_11 x2_12 x2_13 x2_14 x2_15 x2_16 x2_17 x2_18 x2_19 x2_20 x2_21 x2_22 x2_23 x2_24 x2_25 x2_26 x2_27 x2_28 x2_29 x2_30 x2_31 x2_32 x2_33 x2_34 x2_35 x2_36 x2_37 x2_38) := by
  obtain ⟨e', p, b', At', E', q, ⟨r1, r2⟩, ⟨m1, m2⟩, hpq, hL⟩ := blob_like (most := x2_38) hB hl h
  have hs : ((strOf p).toList == (strOf q).toList) = true := by rw [strOf_col hpq]; simp
  refine ⟨e', At', E', b', ?_, hL⟩
  unfold rds_res
  simp only [show ((8 : Int) == (0 : Int)) = false from rfl, show ((8 : Int) == (1 : Int)) = false from rfl, show ((8 : Int) == (2 : Int)) = false from rfl, show ((8 : Int) == (3 : Int)) = false from rfl, show ((8 : Int) == (4 : Int)) = false from rfl, show ((8 : Int) == (5 : Int)) = false from rfl, show ((8 : Int) == (6 : Int)) = false from rfl, show ((8 : Int) == (7 : Int)) = false from rfl, show ((8 : Int) == (8 : Int)) = true from rfl, show ((8 : Int) == (9 : Int)) = false from rfl, show ((8 : Int) == (10 : Int)) = false from rfl, cond_true, cond_false, r1, r2, m1, m2, hs, Option.isSome_some]
  exact fin_like hl hL
theorem rds_9 {B b : List (List Ct)} {e At E : Int} (hB : Byt (col B)) (hl : B.length ≤ 1048576) (h : Like B b e At E) (x2_1 : Int) (x2_2 : Int) (x2_3 : Int) (x2_4 : Int) (x2_5 : Int) (x2_6 : Int) (x2_7 : Int) (x2_8 : Int) (x2_9 : Int) (x2_10 : Int) (x2_11 : Int) (x2_12 : Int) (x2_13 : Int) (x2_14 : Int) (x2_15 : Int) (x2_16 : Int) (x2_17 : Int) (x2_18 : Int) (x2_19 : Int) (x2_20 : Int) (x2_21 : Int) (x2_22 : Int) (x2_23 : Int) (x2_24 : Int) (x2_25 : Int) (x2_26 : Int) (x2_27 : Int) (x2_28 : Int) (x2_29 : Int) (x2_30 : Int) (x2_31 : Int) (x2_32 : Int) (x2_33 : Int) (x2_34 : Int) (x2_35 : Int) (x2_36 : Int) (x2_37 : List (List Ct)) (x2_38 : Int) : ReadsAs B (rds_res b e B At E (9 : Int) x2_1 x2_2 x2_3 x2_4 x2_5 x2_6 x2_7 x2_8 x2_9 x2_10 x2_11 x2_12 x2_13 x2_14 x2_15 x2_16 x2_17 x2_18 x2_19 x2_20 x2_21 x2_22 x2_23 x2_24 x2_25 x2_26 x2_27 x2_28 x2_29 x2_30 x2_31 x2_32 x2_33 x2_34 x2_35 x2_36 x2_37 x2_38) := by
  obtain ⟨v, e', b', At', E', ⟨r1, r2⟩, ⟨m1, m2⟩, hL⟩ := small_like hB hl h
  refine ⟨e', At', E', b', ?_, hL⟩
  unfold rds_res
  simp only [show ((9 : Int) == (0 : Int)) = false from rfl, show ((9 : Int) == (1 : Int)) = false from rfl, show ((9 : Int) == (2 : Int)) = false from rfl, show ((9 : Int) == (3 : Int)) = false from rfl, show ((9 : Int) == (4 : Int)) = false from rfl, show ((9 : Int) == (5 : Int)) = false from rfl, show ((9 : Int) == (6 : Int)) = false from rfl, show ((9 : Int) == (7 : Int)) = false from rfl, show ((9 : Int) == (8 : Int)) = false from rfl, show ((9 : Int) == (9 : Int)) = true from rfl, show ((9 : Int) == (10 : Int)) = false from rfl, cond_true, cond_false, r1, r2, m1, m2, Option.isSome_some, beq_self_eq_true]
  exact fin_like hl hL
theorem rds_10 {B b : List (List Ct)} {e At E : Int} (hB : Byt (col B)) (hl : B.length ≤ 1048576) (h : Like B b e At E) (x2_1 : Int) (x2_2 : Int) (x2_3 : Int) (x2_4 : Int) (x2_5 : Int) (x2_6 : Int) (x2_7 : Int) (x2_8 : Int) (x2_9 : Int) (x2_10 : Int) (x2_11 : Int) (x2_12 : Int) (x2_13 : Int) (x2_14 : Int) (x2_15 : Int) (x2_16 : Int) (x2_17 : Int) (x2_18 : Int) (x2_19 : Int) (x2_20 : Int) (x2_21 : Int) (x2_22 : Int) (x2_23 : Int) (x2_24 : Int) (x2_25 : Int) (x2_26 : Int) (x2_27 : Int) (x2_28 : Int) (x2_29 : Int) (x2_30 : Int) (x2_31 : Int) (x2_32 : Int) (x2_33 : Int) (x2_34 : Int) (x2_35 : Int) (x2_36 : Int) (x2_37 : List (List Ct)) (x2_38 : Int) : ReadsAs B (rds_res b e B At E (10 : Int) x2_1 x2_2 x2_3 x2_4 x2_5 x2_6 x2_7 x2_8 x2_9 x2_10 x2_11 x2_12 x2_13 x2_14 x2_15 x2_16 x2_17 x2_18 x2_19 x2_20 x2_21 x2_22 x2_23 x2_24 x2_25 x2_26 x2_27 x2_28 x2_29 x2_30 x2_31 x2_32 x2_33 x2_34 x2_35 x2_36 x2_37 x2_38) := by
  obtain rfl := h.e
  by_cases he : e = 0
  · subst he
    by_cases ht : x2_38.tmod (40 : Int) = 0
    · refine ⟨0, At, 0, b, ?_, h⟩
      unfold rds_res
      simp only [show ((10 : Int) == (0 : Int)) = false from rfl, show ((10 : Int) == (1 : Int)) = false from rfl, show ((10 : Int) == (2 : Int)) = false from rfl, show ((10 : Int) == (3 : Int)) = false from rfl, show ((10 : Int) == (4 : Int)) = false from rfl, show ((10 : Int) == (5 : Int)) = false from rfl, show ((10 : Int) == (6 : Int)) = false from rfl, show ((10 : Int) == (7 : Int)) = false from rfl, show ((10 : Int) == (8 : Int)) = false from rfl, show ((10 : Int) == (9 : Int)) = false from rfl, show ((10 : Int) == (10 : Int)) = true from rfl, cond_true, cond_false, ht, beq_self_eq_true, show ((0 : Int) != (0 : Int)) = false from rfl]
      simpa only [beq_self_eq_true, cond_true, cond_false, show ((0 : Int) != (0 : Int)) = false from rfl] using fin_like hl h (x := none)
    · refine ⟨x2_38.tmod (40 : Int), At, x2_38.tmod (40 : Int), [], ?_, ⟨rfl, fun h => absurd h ht, fun _ => rfl⟩⟩
      unfold rds_res
      simp only [show ((10 : Int) == (0 : Int)) = false from rfl, show ((10 : Int) == (1 : Int)) = false from rfl, show ((10 : Int) == (2 : Int)) = false from rfl, show ((10 : Int) == (3 : Int)) = false from rfl, show ((10 : Int) == (4 : Int)) = false from rfl, show ((10 : Int) == (5 : Int)) = false from rfl, show ((10 : Int) == (6 : Int)) = false from rfl, show ((10 : Int) == (7 : Int)) = false from rfl, show ((10 : Int) == (8 : Int)) = false from rfl, show ((10 : Int) == (9 : Int)) = false from rfl, show ((10 : Int) == (10 : Int)) = true from rfl, cond_true, cond_false, show (x2_38.tmod (40 : Int) != (0 : Int)) = true by simpa using ht, beq_self_eq_true]
  · refine ⟨e, At, e, b, ?_, h⟩
    unfold rds_res
    simp only [show ((10 : Int) == (0 : Int)) = false from rfl, show ((10 : Int) == (1 : Int)) = false from rfl, show ((10 : Int) == (2 : Int)) = false from rfl, show ((10 : Int) == (3 : Int)) = false from rfl, show ((10 : Int) == (4 : Int)) = false from rfl, show ((10 : Int) == (5 : Int)) = false from rfl, show ((10 : Int) == (6 : Int)) = false from rfl, show ((10 : Int) == (7 : Int)) = false from rfl, show ((10 : Int) == (8 : Int)) = false from rfl, show ((10 : Int) == (9 : Int)) = false from rfl, show ((10 : Int) == (10 : Int)) = true from rfl, cond_true, cond_false, show (e == (0 : Int)) = false by simpa using he]
    exact fin_like hl h
theorem rds_11 {B b : List (List Ct)} {e At E : Int} (hB : Byt (col B)) (hl : B.length ≤ 1048576) (h : Like B b e At E) (x2_0 : Int) (x2_1 : Int) (x2_2 : Int) (x2_3 : Int) (x2_4 : Int) (x2_5 : Int) (x2_6 : Int) (x2_7 : Int) (x2_8 : Int) (x2_9 : Int) (x2_10 : Int) (x2_11 : Int) (x2_12 : Int) (x2_13 : Int) (x2_14 : Int) (x2_15 : Int) (x2_16 : Int) (x2_17 : Int) (x2_18 : Int) (x2_19 : Int) (x2_20 : Int) (x2_21 : Int) (x2_22 : Int) (x2_23 : Int) (x2_24 : Int) (x2_25 : Int) (x2_26 : Int) (x2_27 : Int) (x2_28 : Int) (x2_29 : Int) (x2_30 : Int) (x2_31 : Int) (x2_32 : Int) (x2_33 : Int) (x2_34 : Int) (x2_35 : Int) (x2_36 : Int) (x2_37 : List (List Ct)) (x2_38 : Int) (h0 : x2_0 ≠ 0) (h1 : x2_0 ≠ 1) (h2 : x2_0 ≠ 2) (h3 : x2_0 ≠ 3) (h4 : x2_0 ≠ 4) (h5 : x2_0 ≠ 5) (h6 : x2_0 ≠ 6) (h7 : x2_0 ≠ 7) (h8 : x2_0 ≠ 8) (h9 : x2_0 ≠ 9) (h10 : x2_0 ≠ 10) : ReadsAs B (rds_res b e B At E x2_0 x2_1 x2_2 x2_3 x2_4 x2_5 x2_6 x2_7 x2_8 x2_9 x2_10 x2_11 x2_12 x2_13 x2_14 x2_15 x2_16 x2_17 x2_18 x2_19 x2_20 x2_21 x2_22 x2_23 x2_24 x2_25 x2_26 x2_27 x2_28 x2_29 x2_30 x2_31 x2_32 x2_33 x2_34 x2_35 x2_36 x2_37 x2_38) := by
  refine ⟨e, At, E, b, ?_, h⟩
  unfold rds_res
  simp only [(show (x2_0 == (0 : Int)) = false by simpa using h0), (show (x2_0 == (1 : Int)) = false by simpa using h1), (show (x2_0 == (2 : Int)) = false by simpa using h2), (show (x2_0 == (3 : Int)) = false by simpa using h3), (show (x2_0 == (4 : Int)) = false by simpa using h4), (show (x2_0 == (5 : Int)) = false by simpa using h5), (show (x2_0 == (6 : Int)) = false by simpa using h6), (show (x2_0 == (7 : Int)) = false by simpa using h7), (show (x2_0 == (8 : Int)) = false by simpa using h8), (show (x2_0 == (9 : Int)) = false by simpa using h9), (show (x2_0 == (10 : Int)) = false by simpa using h10), cond_true, cond_false]
  exact fin_like hl h
theorem rds_all {B b : List (List Ct)} {e At E : Int} (hB : Byt (col B)) (hl : B.length ≤ 1048576) (h : Like B b e At E) (x2_0 : Int) (x2_1 : Int) (x2_2 : Int) (x2_3 : Int) (x2_4 : Int) (x2_5 : Int) (x2_6 : Int) (x2_7 : Int) (x2_8 : Int) (x2_9 : Int) (x2_10 : Int) (x2_11 : Int) (x2_12 : Int) (x2_13 : Int) (x2_14 : Int) (x2_15 : Int) (x2_16 : Int) (x2_17 : Int) (x2_18 : Int) (x2_19 : Int) (x2_20 : Int) (x2_21 : Int) (x2_22 : Int) (x2_23 : Int) (x2_24 : Int) (x2_25 : Int) (x2_26 : Int) (x2_27 : Int) (x2_28 : Int) (x2_29 : Int) (x2_30 : Int) (x2_31 : Int) (x2_32 : Int) (x2_33 : Int) (x2_34 : Int) (x2_35 : Int) (x2_36 : Int) (x2_37 : List (List Ct)) (x2_38 : Int) : ReadsAs B (rds_res b e B At E x2_0 x2_1 x2_2 x2_3 x2_4 x2_5 x2_6 x2_7 x2_8 x2_9 x2_10 x2_11 x2_12 x2_13 x2_14 x2_15 x2_16 x2_17 x2_18 x2_19 x2_20 x2_21 x2_22 x2_23 x2_24 x2_25 x2_26 x2_27 x2_28 x2_29 x2_30 x2_31 x2_32 x2_33 x2_34 x2_35 x2_36 x2_37 x2_38) := by
  by_cases h0 : x2_0 = 0
  · subst h0; exact rds_0 hB hl h x2_1 x2_2 x2_3 x2_4 x2_5 x2_6 x2_7 x2_8 x2_9 x2_10 x2_11 x2_12 x2_13 x2_14 x2_15 x2_16 x2_17 x2_18 x2_19 x2_20 x2_21 x2_22 x2_23 x2_24 x2_25 x2_26 x2_27 x2_28 x2_29 x2_30 x2_31 x2_32 x2_33 x2_34 x2_35 x2_36 x2_37 x2_38
  by_cases h1 : x2_0 = 1
  · subst h1; exact rds_1 hB hl h x2_1 x2_2 x2_3 x2_4 x2_5 x2_6 x2_7 x2_8 x2_9 x2_10 x2_11 x2_12 x2_13 x2_14 x2_15 x2_16 x2_17 x2_18 x2_19 x2_20 x2_21 x2_22 x2_23 x2_24 x2_25 x2_26 x2_27 x2_28 x2_29 x2_30 x2_31 x2_32 x2_33 x2_34 x2_35 x2_36 x2_37 x2_38
  by_cases h2 : x2_0 = 2
  · subst h2; exact rds_2 hB hl h x2_1 x2_2 x2_3 x2_4 x2_5 x2_6 x2_7 x2_8 x2_9 x2_10 x2_11 x2_12 x2_13 x2_14 x2_15 x2_16 x2_17 x2_18 x2_19 x2_20 x2_21 x2_22 x2_23 x2_24 x2_25 x2_26 x2_27 x2_28 x2_29 x2_30 x2_31 x2_32 x2_33 x2_34 x2_35 x2_36 x2_37 x2_38
  by_cases h3 : x2_0 = 3
  · subst h3; exact rds_3 hB hl h x2_1 x2_2 x2_3 x2_4 x2_5 x2_6 x2_7 x2_8 x2_9 x2_10 x2_11 x2_12 x2_13 x2_14 x2_15 x2_16 x2_17 x2_18 x2_19 x2_20 x2_21 x2_22 x2_23 x2_24 x2_25 x2_26 x2_27 x2_28 x2_29 x2_30 x2_31 x2_32 x2_33 x2_34 x2_35 x2_36 x2_37 x2_38
  by_cases h4 : x2_0 = 4
  · subst h4; exact rds_4 hB hl h x2_1 x2_2 x2_3 x2_4 x2_5 x2_6 x2_7 x2_8 x2_9 x2_10 x2_11 x2_12 x2_13 x2_14 x2_15 x2_16 x2_17 x2_18 x2_19 x2_20 x2_21 x2_22 x2_23 x2_24 x2_25 x2_26 x2_27 x2_28 x2_29 x2_30 x2_31 x2_32 x2_33 x2_34 x2_35 x2_36 x2_37 x2_38
  by_cases h5 : x2_0 = 5
  · subst h5; exact rds_5 hB hl h x2_1 x2_2 x2_3 x2_4 x2_5 x2_6 x2_7 x2_8 x2_9 x2_10 x2_11 x2_12 x2_13 x2_14 x2_15 x2_16 x2_17 x2_18 x2_19 x2_20 x2_21 x2_22 x2_23 x2_24 x2_25 x2_26 x2_27 x2_28 x2_29 x2_30 x2_31 x2_32 x2_33 x2_34 x2_35 x2_36 x2_37 x2_38
  by_cases h6 : x2_0 = 6
  · subst h6; exact rds_6 hB hl h x2_1 x2_2 x2_3 x2_4 x2_5 x2_6 x2_7 x2_8 x2_9 x2_10 x2_11 x2_12 x2_13 x2_14 x2_15 x2_16 x2_17 x2_18 x2_19 x2_20 x2_21 x2_22 x2_23 x2_24 x2_25 x2_26 x2_27 x2_28 x2_29 x2_30 x2_31 x2_32 x2_33 x2_34 x2_35 x2_36 x2_37 x2_38
  by_cases h7 : x2_0 = 7
  · subst h7; exact rds_7 hB hl h x2_1 x2_2 x2_3 x2_4 x2_5 x2_6 x2_7 x2_8 x2_9 x2_10 x2_11 x2_12 x2_13 x2_14 x2_15 x2_16 x2_17 x2_18 x2_19 x2_20 x2_21 x2_22 x2_23 x2_24 x2_25 x2_26 x2_27 x2_28 x2_29 x2_30 x2_31 x2_32 x2_33 x2_34 x2_35 x2_36 x2_37 x2_38
  by_cases h8 : x2_0 = 8
  · subst h8; exact rds_8 hB hl h x2_1 x2_2 x2_3 x2_4 x2_5 x2_6 x2_7 x2_8 x2_9 x2_10 x2_11 x2_12 x2_13 x2_14 x2_15 x2_16 x2_17 x2_18 x2_19 x2_20 x2_21 x2_22 x2_23 x2_24 x2_25 x2_26 x2_27 x2_28 x2_29 x2_30 x2_31 x2_32 x2_33 x2_34 x2_35 x2_36 x2_37 x2_38
  by_cases h9 : x2_0 = 9
  · subst h9; exact rds_9 hB hl h x2_1 x2_2 x2_3 x2_4 x2_5 x2_6 x2_7 x2_8 x2_9 x2_10 x2_11 x2_12 x2_13 x2_14 x2_15 x2_16 x2_17 x2_18 x2_19 x2_20 x2_21 x2_22 x2_23 x2_24 x2_25 x2_26 x2_27 x2_28 x2_29 x2_30 x2_31 x2_32 x2_33 x2_34 x2_35 x2_36 x2_37 x2_38
  by_cases h10 : x2_0 = 10
  · subst h10; exact rds_10 hB hl h x2_1 x2_2 x2_3 x2_4 x2_5 x2_6 x2_7 x2_8 x2_9 x2_10 x2_11 x2_12 x2_13 x2_14 x2_15 x2_16 x2_17 x2_18 x2_19 x2_20 x2_21 x2_22 x2_23 x2_24 x2_25 x2_26 x2_27 x2_28 x2_29 x2_30 x2_31 x2_32 x2_33 x2_34 x2_35 x2_36 x2_37 x2_38
  exact rds_11 hB hl h x2_0 x2_1 x2_2 x2_3 x2_4 x2_5 x2_6 x2_7 x2_8 x2_9 x2_10 x2_11 x2_12 x2_13 x2_14 x2_15 x2_16 x2_17 x2_18 x2_19 x2_20 x2_21 x2_22 x2_23 x2_24 x2_25 x2_26 x2_27 x2_28 x2_29 x2_30 x2_31 x2_32 x2_33 x2_34 x2_35 x2_36 x2_37 x2_38 h0 h1 h2 h3 h4 h5 h6 h7 h8 h9 h10
theorem lrr0_it {x0 x1 : List (List Ct)} (hb : x0.length ≤ 1048576) : ∀ (d k : Nat) (vl : List (List Ct)), k + d = x0.length → vl.length = x0.length → (iter (lrr_L0_step x0 x1) (d + 1) ((k : Int), vl)).isSome = true := by
  intro d
  induction d with
  | zero =>
    intro k vl hk hl
    have q : ¬ ((k : Int) < (([] ++ x0 : List (List Ct)).length : Int)) := by simp; omega
    rw [iter_inr (r := ((k : Int), vl)) (by simp only [lrr_L0_step, cond_not q])]
    rfl
  | succ d ih =>
    intro k vl hk hl
    have q : ((k : Int) < (([] ++ x0 : List (List Ct)).length : Int)) := by simp; omega
    have q2 : ((0 : Int) ≤ (k : Int) ∧ (k : Int) < (vl.length : Int)) := by omega
    have w : IntKind.i64.wrap ((k : Int) + 1) = ((k + 1 : Nat) : Int) := by rw [wrap_in (by omega) (by omega)]; omega
    have hst : ∃ r, lrr_L0_step x0 x1 ((k : Int), vl) = some (.inl (((k + 1 : Nat) : Int), vl.set k r)) := ⟨_, by simp only [lrr_L0_step, cond_dec q, cond_dec q2, Int.toNat_natCast, w]; rfl⟩
    obtain ⟨r, hst⟩ := hst
    rw [iter_inl hst]
    exact ih (k + 1) _ (by omega) (by simp [hl])
theorem lrr2_it {x0 x1 : List (List Ct)} (hB : Byt (col x0)) (hb : x0.length ≤ 1048576) (h1 : x1.length ≤ 9223372036854775807) : ∀ (d k : Nat) (e At E : Int) (b : List (List Ct)), k + d = 61 → k ≤ x1.length → Like x0 b e At E →
    ∃ c e' At' E' b', iter (lrr_L2_step x0 x1) (d + 1) ((k : Int), e, At, E, b) = some (.inl (c, e', At', E', b')) ∧ Like x0 b' e' At' E' := by
  intro d
  induction d with
  | zero =>
    intro k e At E b hk hkl hL
    obtain rfl : k = 61 := by omega
    refine ⟨((61 : Nat) : Int), e, At, E, b, iter_inr ?_, hL⟩
    by_cases hx : ((61 : Nat) : Int) < (x1.length : Int)
    · have q2 : ((0 : Int) ≤ ((61 : Nat) : Int) ∧ ((61 : Nat) : Int) < (x1.length : Int)) := by omega
      have q3 : ((61 : Nat) : Int) ≥ 60 := by omega
      simp only [lrr_L2_step, cond_dec hx, cond_dec q2, cond_dec q3]
    · simp only [lrr_L2_step, cond_not hx]
  | succ d ih =>
    intro k e At E b hk hkl hL
    by_cases q : ((k : Int) < (x1.length : Int))
    · have q2 : ((0 : Int) ≤ (k : Int) ∧ (k : Int) < (x1.length : Int)) := by omega
      by_cases q3 : (k : Int) ≥ 60
      · exact ⟨(k : Int), e, At, E, b, iter_inr (by simp only [lrr_L2_step, cond_dec q, cond_dec q2, cond_dec q3]), hL⟩
      · have w : IntKind.i64.wrap ((k : Int) + 1) = ((k + 1 : Nat) : Int) := by rw [wrap_in (by omega) (by omega)]; omega
        obtain ⟨e', At', E', b', g1, g2⟩ := rds_all hB hb hL (rd x1 k 0).int (rd x1 k 1).int (rd x1 k 2).int (rd x1 k 3).int (rd x1 k 4).int (rd x1 k 5).int (rd x1 k 6).int (rd x1 k 7).int (rd x1 k 8).int (rd x1 k 9).int (rd x1 k 10).int (rd x1 k 11).int (rd x1 k 12).int (rd x1 k 13).int (rd x1 k 14).int (rd x1 k 15).int (rd x1 k 16).int (rd x1 k 17).int (rd x1 k 18).int (rd x1 k 19).int (rd x1 k 20).int (rd x1 k 21).int (rd x1 k 22).int (rd x1 k 23).int (rd x1 k 24).int (rd x1 k 25).int (rd x1 k 26).int (rd x1 k 27).int (rd x1 k 28).int (rd x1 k 29).int (rd x1 k 30).int (rd x1 k 31).int (rd x1 k 32).int (rd x1 k 33).int (rd x1 k 34).int (rd x1 k 35).int (rd x1 k 36).int (rd x1 k 37).rows (rd x1 k 38).int
        have hst : lrr_L2_step x0 x1 ((k : Int), e, At, E, b) = some (.inl (((k + 1 : Nat) : Int), e', At', E', b')) := by
          simp only [lrr_L2_step, cond_dec q, cond_dec q2, cond_not q3, Int.toNat_natCast, w, rds_v, g1, Option.isSome_some, Option.getD_some, Bool.not_true, cond_true, cond_false]
        rw [iter_inl hst]
        exact ih (k + 1) e' At' E' b' (by omega) (by omega) g2
    · exact ⟨(k : Int), e, At, E, b, iter_inr (by simp only [lrr_L2_step, cond_not q]), hL⟩
theorem byt_of {x0 : List (List Ct)} (h : ∀ i, i < x0.length → ∀ (j : Nat) s, [Sh.int IntKind.u8][j]? = some s → CtWf 7 s (rd x0 i j)) : Byt (col x0) := by
  intro y hy
  obtain ⟨i, hi, rfl⟩ := List.getElem_of_mem hy
  rw [col_length] at hi
  have h1 : (Lit.int IntKind.u8 (rd x0 i 0).int).wf = true := h i hi 0 _ rfl
  have e : (col x0)[i]'(by rw [col_length]; exact hi) = (rd x0 i 0).int := by rw [rd_col]; simp [List.getD, col_length, hi]
  rw [e]
  simp [Lit.wf, IntKind.min, IntKind.max, IntKind.bits, IntKind.signed] at h1
  omega
theorem lrr_true (x0 x1 : List (List Ct)) (h0 : x0.length ≤ 1048576) (h1 : x1.length ≤ 1048576) (hW : ∀ i, i < x0.length → ∀ (j : Nat) s, [Sh.int IntKind.u8][j]? = some s → CtWf 7 s (rd x0 i j)) : lrr_res x0 x1 = some true := by
  have hB := byt_of hW
  have e0 : ((0 : Nat) : Int) = (0 : Int) := rfl
  have r1 : rrd_res ([] ++ x0) = some ([] ++ ([] ++ x0)) := by
    unfold rrd_res
    exact ob_step (by simp only [List.nil_append]; omega) rfl
  have r2 : rrd_v ([] ++ x0) = x0 := by unfold rrd_v; rw [r1]; rfl
  have p1 : lrr_L0_p x0 x1 = true := by
    unfold lrr_L0_p
    have := lrr0_it (x1 := x1) h0 x0.length 0 ([] ++ x0) (by omega) rfl
    exact this
  obtain ⟨c, e, At, E, b, g1, hL⟩ := lrr2_it hB h0 (by omega) 61 0 0 0 0 x0 (by omega) (by omega) (x1 := x1) ⟨rfl, fun _ => ⟨0, rfl, by omega, by simp⟩, fun h => absurd rfl h⟩
  rw [e0] at g1
  have q1 : lrr_L2_p x0 x1 = true := by unfold lrr_L2_p; rw [r2, g1]; rfl
  have q2 : lrr_L2_v x0 x1 = .inl (c, e, At, E, b) := by unfold lrr_L2_v; rw [r2, g1]; rfl
  unfold lrr_res
  rw [r1, p1, q1, q2]
  refine ob_step (by omega) ?_
  have hee := hL.e
  subst hee
  show (bif decide ((b.length : Int) > 0) then (bif (e == (0 : Int)) then (bif (e != (0 : Int)) then some ((10 : Int) == e) else bif decide (IntKind.i64.wrap ((x0.length : Int) - At) > 0) then some true else some ((10 : Int) == e)) else bif (e != (0 : Int)) then some (e == e) else bif decide (IntKind.i64.wrap ((x0.length : Int) - At) > 0) then some (e == (10 : Int)) else some (e == e)) else bif (e != (0 : Int)) then some (e == e) else bif decide (IntKind.i64.wrap ((x0.length : Int) - At) > 0) then some (e == (10 : Int)) else some (e == e)) = some true
  by_cases he : e = 0
  · subst he
    obtain ⟨a, rfl, hal, hc⟩ := hL.ok rfl
    have hb : b.length = x0.length - a := by rw [← col_length, hc, List.length_drop, col_length]
    have w : IntKind.i64.wrap ((x0.length : Int) - (a : Int)) = (x0.length : Int) - (a : Int) := wrap_in (by omega) (by omega)
    rw [w]
    by_cases hq : (b.length : Int) > 0
    · rw [cond_dec hq, cond_dec (show (x0.length : Int) - (a : Int) > 0 by omega)]; rfl
    · rw [cond_not hq, cond_not (show ¬ (x0.length : Int) - (a : Int) > 0 by omega)]; rfl
  · rw [hL.bad he, cond_not (show ¬ ((([] : List (List Ct)).length : Int) > 0) by simp), show (e != (0 : Int)) = true by simpa using he]
    simp
theorem lrr_call (x0 x1 : List (List Ct)) (hW : ∀ i, i < x0.length → ∀ (j : Nat) s, [Sh.int IntKind.u8][j]? = some s → CtWf 7 s (rd x0 i j)) (h0 : x0.length ≤ 1048576) (h1 : x1.length ≤ 1048576) : CallOk Try.prog 4 [.sv (.one (.ext 0)), .sv (.one (.ext 1))] [(0, .grid [.int .u8] x0), (1, .grid [.int .i64, .int .i64, .int .i64, .int .i64, .int .i64, .int .u8, .int .u8, .int .u8, .int .u8, .int .u8, .int .u8, .int .u8, .int .u8, .int .u8, .int .u8, .int .u8, .int .u8, .int .u8, .int .u8, .int .u8, .int .u8, .int .u8, .int .u8, .int .u8, .int .u8, .int .u8, .int .u8, .int .u8, .int .u8, .int .u8, .int .u8, .int .u8, .int .u8, .int .u8, .int .u8, .int .u8, .int .u8, .sl [.int .u8], .int .i64] x1)] 2 (lrr_O true) := lrr_tree (lrr_true x0 x1 h0 h1 hW)
end Go.Proofs.Ytidhjgcegcfmeaa
