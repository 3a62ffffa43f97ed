/- What the bytes of a laid value are, in plain numbers. No condition. -/
import Derived.Test.YtidhjgcegcfmeaaReelLaysL
set_option linter.unusedVariables false
set_option linter.unusedSimpArgs false
namespace Go.Proofs.Ytidhjgcegcfmeaa
open Go.RowKit

/-- A number's lowest bytes. -/
def byt : Nat → Int → List Int
  | 0, _ => []
  | n + 1, d => IntKind.u8.wrap d :: byt n (d / 256)
theorem byt_length : ∀ (n : Nat) (d : Int), (byt n d).length = n
  | 0, _ => rfl
  | n + 1, d => by simp [byt, byt_length n]
theorem shr8 {d : Int} : d.fdiv ((2 : Int) ^ min (Int.toNat (8 : Int)) IntKind.u64.bits) = d / 256 := by
  rw [show (2 : Int) ^ min (Int.toNat (8 : Int)) IntKind.u64.bits = 256 from rfl, Int.fdiv_eq_ediv_of_nonneg _ (by omega)]

def enc (x1_0 : Int) (x1_1 : Int) (x1_2 : Int) (x1_3 : Int) (x1_4 : Int) (x1_5 : Int) (x1_6 : Int) (x1_7 : Int) (x1_8 : Int) (x1_9 : Int) (x1_10 : Int) (x1_11 : Int) (x1_12 : Int) (x1_13 : Int) (x1_14 : Int) (x1_15 : Int) (x1_16 : Int) (x1_17 : Int) (x1_18 : Int) (x1_19 : Int) (x1_20 : Int) (x1_21 : Int) (x1_22 : Int) (x1_23 : Int) (x1_24 : Int) (x1_25 : Int) (x1_26 : Int) (x1_27 : Int) (x1_28 : Int) (x1_29 : Int) (x1_30 : Int) (x1_31 : Int) (x1_32 : Int) (x1_33 : Int) (x1_34 : Int) (x1_35 : Int) (x1_36 : Int) (x1_37 : List (List Ct)) (x1_38 : Int) : List Int :=
    if x1_0 = 0 then byt 1 (IntKind.u64.wrap x1_1) else if x1_0 = 1 then byt 2 (IntKind.u64.wrap x1_1) else if x1_0 = 2 then byt 4 (IntKind.u64.wrap x1_1) else if x1_0 = 3 then byt 8 (IntKind.u64.wrap x1_1) else if x1_0 = 4 then byt 5 (IntKind.u64.wrap x1_1)
    else if x1_0 = 5 ∨ x1_0 = 6 then byt 5 (IntKind.u64.wrap x1_2) ++ (byt 5 (IntKind.u64.wrap x1_3) ++ byt 5 (IntKind.u64.wrap x1_4)) else if x1_0 = 7 then [x1_5, x1_6, x1_7, x1_8, x1_9, x1_10, x1_11, x1_12, x1_13, x1_14, x1_15, x1_16, x1_17, x1_18, x1_19, x1_20, x1_21, x1_22, x1_23, x1_24, x1_25, x1_26, x1_27, x1_28, x1_29, x1_30, x1_31, x1_32, x1_33, x1_34, x1_35, x1_36] else if x1_0 = 8 then byt 4 (IntKind.u64.wrap (x1_37.length : Int)) ++ col x1_37 else []
def Enc (o : Option (List (List Ct))) (wl : List (List Ct)) (s : List Int) : Prop := ∃ u, o = some u ∧ col u = col wl ++ s ∧ u.length ≤ wl.length + 3010
theorem enc_0 (wl : List (List Ct)) (x1_1 : Int) (x1_2 : Int) (x1_3 : Int) (x1_4 : Int) (x1_5 : Int) (x1_6 : Int) (x1_7 : Int) (x1_8 : Int) (x1_9 : Int) (x1_10 : Int) (x1_11 : Int) (x1_12 : Int) (x1_13 : Int) (x1_14 : Int) (x1_15 : Int) (x1_16 : Int) (x1_17 : Int) (x1_18 : Int) (x1_19 : Int) (x1_20 : Int) (x1_21 : Int) (x1_22 : Int) (x1_23 : Int) (x1_24 : Int) (x1_25 : Int) (x1_26 : Int) (x1_27 : Int) (x1_28 : Int) (x1_29 : Int) (x1_30 : Int) (x1_31 : Int) (x1_32 : Int) (x1_33 : Int) (x1_34 : Int) (x1_35 : Int) (x1_36 : Int) (x1_37 : List (List Ct)) (x1_38 : Int) (hl : wl.length ≤ 1000000) (hp : x1_37.length ≤ 3000) : Enc (wlay_res wl (0 : Int) x1_1 x1_2 x1_3 x1_4 x1_5 x1_6 x1_7 x1_8 x1_9 x1_10 x1_11 x1_12 x1_13 x1_14 x1_15 x1_16 x1_17 x1_18 x1_19 x1_20 x1_21 x1_22 x1_23 x1_24 x1_25 x1_26 x1_27 x1_28 x1_29 x1_30 x1_31 x1_32 x1_33 x1_34 x1_35 x1_36 x1_37 x1_38) wl (enc (0 : Int) x1_1 x1_2 x1_3 x1_4 x1_5 x1_6 x1_7 x1_8 x1_9 x1_10 x1_11 x1_12 x1_13 x1_14 x1_15 x1_16 x1_17 x1_18 x1_19 x1_20 x1_21 x1_22 x1_23 x1_24 x1_25 x1_26 x1_27 x1_28 x1_29 x1_30 x1_31 x1_32 x1_33 x1_34 x1_35 x1_36 x1_37 x1_38) := by
  refine Exists.intro ?u (And.intro ?h1 (And.intro ?h3 ?h4))
  case h1 =>
    unfold wlay_res
    simp only [show ((0 : Int) == (0 : Int)) = true from rfl, show ((0 : Int) == (1 : Int)) = false from rfl, show ((0 : Int) == (2 : Int)) = false from rfl, show ((0 : Int) == (3 : Int)) = false from rfl, show ((0 : Int) == (4 : Int)) = false from rfl, show ((0 : Int) == (5 : Int)) = false from rfl, show ((0 : Int) == (6 : Int)) = false from rfl, show ((0 : Int) == (7 : Int)) = false from rfl, show ((0 : Int) == (8 : Int)) = false from rfl, cond_true, cond_false, shr8]
    repeat' refine ob_step (by (try simp only [List.length_append, List.length_cons, List.length_nil]); omega) ?_
    rfl
  case h3 => simp [enc, byt, col_app, col_cons, col_nil, Ct.int]
  case h4 => (try simp only [List.length_append, List.length_cons, List.length_nil]); omega
theorem enc_1 (wl : List (List Ct)) (x1_1 : Int) (x1_2 : Int) (x1_3 : Int) (x1_4 : Int) (x1_5 : Int) (x1_6 : Int) (x1_7 : Int) (x1_8 : Int) (x1_9 : Int) (x1_10 : Int) (x1_11 : Int) (x1_12 : Int) (x1_13 : Int) (x1_14 : Int) (x1_15 : Int) (x1_16 : Int) (x1_17 : Int) (x1_18 : Int) (x1_19 : Int) (x1_20 : Int) (x1_21 : Int) (x1_22 : Int) (x1_23 : Int) (x1_24 : Int) (x1_25 : Int) (x1_26 : Int) (x1_27 : Int) (x1_28 : Int) (x1_29 : Int) (x1_30 : Int) (x1_31 : Int) (x1_32 : Int) (x1_33 : Int) (x1_34 : Int) (x1_35 : Int) (x1_36 : Int) (x1_37 : List (List Ct)) (x1_38 : Int) (hl : wl.length ≤ 1000000) (hp : x1_37.length ≤ 3000) : Enc (wlay_res wl (1 : Int) x1_1 x1_2 x1_3 x1_4 x1_5 x1_6 x1_7 x1_8 x1_9 x1_10 x1_11 x1_12 x1_13 x1_14 x1_15 x1_16 x1_17 x1_18 x1_19 x1_20 x1_21 x1_22 x1_23 x1_24 x1_25 x1_26 x1_27 x1_28 x1_29 x1_30 x1_31 x1_32 x1_33 x1_34 x1_35 x1_36 x1_37 x1_38) wl (enc (1 : Int) x1_1 x1_2 x1_3 x1_4 x1_5 x1_6 x1_7 x1_8 x1_9 x1_10 x1_11 x1_12 x1_13 x1_14 x1_15 x1_16 x1_17 x1_18 x1_19 x1_20 x1_21 x1_22 x1_23 x1_24 x1_25 x1_26 x1_27 x1_28 x1_29 x1_30 x1_31 x1_32 x1_33 x1_34 x1_35 x1_36 x1_37 x1_38) := by
  refine Exists.intro ?u (And.intro ?h1 (And.intro ?h3 ?h4))
  case h1 =>
    unfold wlay_res
    simp only [show ((1 : Int) == (0 : Int)) = false from rfl, show ((1 : Int) == (1 : Int)) = true from rfl, show ((1 : Int) == (2 : Int)) = false from rfl, show ((1 : Int) == (3 : Int)) = false from rfl, show ((1 : Int) == (4 : Int)) = false from rfl, show ((1 : Int) == (5 : Int)) = false from rfl, show ((1 : Int) == (6 : Int)) = false from rfl, show ((1 : Int) == (7 : Int)) = false from rfl, show ((1 : Int) == (8 : Int)) = false from rfl, cond_true, cond_false, shr8]
    repeat' refine ob_step (by (try simp only [List.length_append, List.length_cons, List.length_nil]); omega) ?_
    rfl
  case h3 => simp [enc, byt, col_app, col_cons, col_nil, Ct.int]
  case h4 => (try simp only [List.length_append, List.length_cons, List.length_nil]); omega
theorem enc_2 (wl : List (List Ct)) (x1_1 : Int) (x1_2 : Int) (x1_3 : Int) (x1_4 : Int) (x1_5 : Int) (x1_6 : Int) (x1_7 : Int) (x1_8 : Int) (x1_9 : Int) (x1_10 : Int) (x1_11 : Int) (x1_12 : Int) (x1_13 : Int) (x1_14 : Int) (x1_15 : Int) (x1_16 : Int) (x1_17 : Int) (x1_18 : Int) (x1_19 : Int) (x1_20 : Int) (x1_21 : Int) (x1_22 : Int) (x1_23 : Int) (x1_24 : Int) (x1_25 : Int) (x1_26 : Int) (x1_27 : Int) (x1_28 : Int) (x1_29 : Int) (x1_30 : Int) (x1_31 : Int) (x1_32 : Int) (x1_33 : Int) (x1_34 : Int) (x1_35 : Int) (x1_36 : Int) (x1_37 : List (List Ct)) (x1_38 : Int) (hl : wl.length ≤ 1000000) (hp : x1_37.length ≤ 3000) : Enc (wlay_res wl (2 : Int) x1_1 x1_2 x1_3 x1_4 x1_5 x1_6 x1_7 x1_8 x1_9 x1_10 x1_11 x1_12 x1_13 x1_14 x1_15 x1_16 x1_17 x1_18 x1_19 x1_20 x1_21 x1_22 x1_23 x1_24 x1_25 x1_26 x1_27 x1_28 x1_29 x1_30 x1_31 x1_32 x1_33 x1_34 x1_35 x1_36 x1_37 x1_38) wl (enc (2 : Int) x1_1 x1_2 x1_3 x1_4 x1_5 x1_6 x1_7 x1_8 x1_9 x1_10 x1_11 x1_12 x1_13 x1_14 x1_15 x1_16 x1_17 x1_18 x1_19 x1_20 x1_21 x1_22 x1_23 x1_24 x1_25 x1_26 x1_27 x1_28 x1_29 x1_30 x1_31 x1_32 x1_33 x1_34 x1_35 x1_36 x1_37 x1_38) := by
  refine Exists.intro ?u (And.intro ?h1 (And.intro ?h3 ?h4))
  case h1 =>
    unfold wlay_res
    simp only [show ((2 : Int) == (0 : Int)) = false from rfl, show ((2 : Int) == (1 : Int)) = false from rfl, show ((2 : Int) == (2 : Int)) = true from rfl, show ((2 : Int) == (3 : Int)) = false from rfl, show ((2 : Int) == (4 : Int)) = false from rfl, show ((2 : Int) == (5 : Int)) = false from rfl, show ((2 : Int) == (6 : Int)) = false from rfl, show ((2 : Int) == (7 : Int)) = false from rfl, show ((2 : Int) == (8 : Int)) = false from rfl, cond_true, cond_false, shr8]
    repeat' refine ob_step (by (try simp only [List.length_append, List.length_cons, List.length_nil]); omega) ?_
    rfl
  case h3 => simp [enc, byt, col_app, col_cons, col_nil, Ct.int]
  case h4 => (try simp only [List.length_append, List.length_cons, List.length_nil]); omega
theorem enc_3 (wl : List (List Ct)) (x1_1 : Int) (x1_2 : Int) (x1_3 : Int) (x1_4 : Int) (x1_5 : Int) (x1_6 : Int) (x1_7 : Int) (x1_8 : Int) (x1_9 : Int) (x1_10 : Int) (x1_11 : Int) (x1_12 : Int) (x1_13 : Int) (x1_14 : Int) (x1_15 : Int) (x1_16 : Int) (x1_17 : Int) (x1_18 : Int) (x1_19 : Int) (x1_20 : Int) (x1_21 : Int) (x1_22 : Int) (x1_23 : Int) (x1_24 : Int) (x1_25 : Int) (x1_26 : Int) (x1_27 : Int) (x1_28 : Int) (x1_29 : Int) (x1_30 : Int) (x1_31 : Int) (x1_32 : Int) (x1_33 : Int) (x1_34 : Int) (x1_35 : Int) (x1_36 : Int) (x1_37 : List (List Ct)) (x1_38 : Int) (hl : wl.length ≤ 1000000) (hp : x1_37.length ≤ 3000) : Enc (wlay_res wl (3 : Int) x1_1 x1_2 x1_3 x1_4 x1_5 x1_6 x1_7 x1_8 x1_9 x1_10 x1_11 x1_12 x1_13 x1_14 x1_15 x1_16 x1_17 x1_18 x1_19 x1_20 x1_21 x1_22 x1_23 x1_24 x1_25 x1_26 x1_27 x1_28 x1_29 x1_30 x1_31 x1_32 x1_33 x1_34 x1_35 x1_36 x1_37 x1_38) wl (enc (3 : Int) x1_1 x1_2 x1_3 x1_4 x1_5 x1_6 x1_7 x1_8 x1_9 x1_10 x1_11 x1_12 x1_13 x1_14 x1_15 x1_16 x1_17 x1_18 x1_19 x1_20 x1_21 x1_22 x1_23 x1_24 x1_25 x1_26 x1_27 x1_28 x1_29 x1_30 x1_31 x1_32 x1_33 x1_34 x1_35 x1_36 x1_37 x1_38) := by
  refine Exists.intro ?u (And.intro ?h1 (And.intro ?h3 ?h4))
  case h1 =>
    unfold wlay_res
    simp only [show ((3 : Int) == (0 : Int)) = false from rfl, show ((3 : Int) == (1 : Int)) = false from rfl, show ((3 : Int) == (2 : Int)) = false from rfl, show ((3 : Int) == (3 : Int)) = true from rfl, show ((3 : Int) == (4 : Int)) = false from rfl, show ((3 : Int) == (5 : Int)) = false from rfl, show ((3 : Int) == (6 : Int)) = false from rfl, show ((3 : Int) == (7 : Int)) = false from rfl, show ((3 : Int) == (8 : Int)) = false from rfl, cond_true, cond_false, shr8]
    repeat' refine ob_step (by (try simp only [List.length_append, List.length_cons, List.length_nil]); omega) ?_
    rfl
  case h3 => simp [enc, byt, col_app, col_cons, col_nil, Ct.int]
  case h4 => (try simp only [List.length_append, List.length_cons, List.length_nil]); omega
theorem enc_4 (wl : List (List Ct)) (x1_1 : Int) (x1_2 : Int) (x1_3 : Int) (x1_4 : Int) (x1_5 : Int) (x1_6 : Int) (x1_7 : Int) (x1_8 : Int) (x1_9 : Int) (x1_10 : Int) (x1_11 : Int) (x1_12 : Int) (x1_13 : Int) (x1_14 : Int) (x1_15 : Int) (x1_16 : Int) (x1_17 : Int) (x1_18 : Int) (x1_19 : Int) (x1_20 : Int) (x1_21 : Int) (x1_22 : Int) (x1_23 : Int) (x1_24 : Int) (x1_25 : Int) (x1_26 : Int) (x1_27 : Int) (x1_28 : Int) (x1_29 : Int) (x1_30 : Int) (x1_31 : Int) (x1_32 : Int) (x1_33 : Int) (x1_34 : Int) (x1_35 : Int) (x1_36 : Int) (x1_37 : List (List Ct)) (x1_38 : Int) (hl : wl.length ≤ 1000000) (hp : x1_37.length ≤ 3000) : Enc (wlay_res wl (4 : Int) x1_1 x1_2 x1_3 x1_4 x1_5 x1_6 x1_7 x1_8 x1_9 x1_10 x1_11 x1_12 x1_13 x1_14 x1_15 x1_16 x1_17 x1_18 x1_19 x1_20 x1_21 x1_22 x1_23 x1_24 x1_25 x1_26 x1_27 x1_28 x1_29 x1_30 x1_31 x1_32 x1_33 x1_34 x1_35 x1_36 x1_37 x1_38) wl (enc (4 : Int) x1_1 x1_2 x1_3 x1_4 x1_5 x1_6 x1_7 x1_8 x1_9 x1_10 x1_11 x1_12 x1_13 x1_14 x1_15 x1_16 x1_17 x1_18 x1_19 x1_20 x1_21 x1_22 x1_23 x1_24 x1_25 x1_26 x1_27 x1_28 x1_29 x1_30 x1_31 x1_32 x1_33 x1_34 x1_35 x1_36 x1_37 x1_38) := by
  refine Exists.intro ?u (And.intro ?h1 (And.intro ?h3 ?h4))
  case h1 =>
    unfold wlay_res
    simp only [show ((4 : Int) == (0 : Int)) = false from rfl, show ((4 : Int) == (1 : Int)) = false from rfl, show ((4 : Int) == (2 : Int)) = false from rfl, show ((4 : Int) == (3 : Int)) = false from rfl, show ((4 : Int) == (4 : Int)) = true from rfl, show ((4 : Int) == (5 : Int)) = false from rfl, show ((4 : Int) == (6 : Int)) = false from rfl, show ((4 : Int) == (7 : Int)) = false from rfl, show ((4 : Int) == (8 : Int)) = false from rfl, cond_true, cond_false, shr8]
    repeat' refine ob_step (by (try simp only [List.length_append, List.length_cons, List.length_nil]); omega) ?_
    rfl
  case h3 => simp [enc, byt, col_app, col_cons, col_nil, Ct.int]
  case h4 => (try simp only [List.length_append, List.length_cons, List.length_nil]); omega
theorem enc_5 (wl : List (List Ct)) (x1_1 : Int) (x1_2 : Int) (x1_3 : Int) (x1_4 : Int) (x1_5 : Int) (x1_6 : Int) (x1_7 : Int) (x1_8 : Int) (x1_9 : Int) (x1_10 : Int) (x1_11 : Int) (x1_12 : Int) (x1_13 : Int) (x1_14 : Int) (x1_15 : Int) (x1_16 : Int) (x1_17 : Int) (x1_18 : Int) (x1_19 : Int) (x1_20 : Int) (x1_21 : Int) (x1_22 : Int) (x1_23 : Int) (x1_24 : Int) (x1_25 : Int) (x1_26 : Int) (x1_27 : Int) (x1_28 : Int) (x1_29 : Int) (x1_30 : Int) (x1_31 : Int) (x1_32 : Int) (x1_33 : Int) (x1_34 : Int) (x1_35 : Int) (x1_36 : Int) (x1_37 : List (List Ct)) (x1_38 : Int) (hl : wl.length ≤ 1000000) (hp : x1_37.length ≤ 3000) : Enc (wlay_res wl (5 : Int) x1_1 x1_2 x1_3 x1_4 x1_5 x1_6 x1_7 x1_8 x1_9 x1_10 x1_11 x1_12 x1_13 x1_14 x1_15 x1_16 x1_17 x1_18 x1_19 x1_20 x1_21 x1_22 x1_23 x1_24 x1_25 x1_26 x1_27 x1_28 x1_29 x1_30 x1_31 x1_32 x1_33 x1_34 x1_35 x1_36 x1_37 x1_38) wl (enc (5 : Int) x1_1 x1_2 x1_3 x1_4 x1_5 x1_6 x1_7 x1_8 x1_9 x1_10 x1_11 x1_12 x1_13 x1_14 x1_15 x1_16 x1_17 x1_18 x1_19 x1_20 x1_21 x1_22 x1_23 x1_24 x1_25 x1_26 x1_27 x1_28 x1_29 x1_30 x1_31 x1_32 x1_33 x1_34 x1_35 x1_36 x1_37 x1_38) := by
  refine Exists.intro ?u (And.intro ?h1 (And.intro ?h3 ?h4))
  case h1 =>
    unfold wlay_res
    simp only [show ((5 : Int) == (0 : Int)) = false from rfl, show ((5 : Int) == (1 : Int)) = false from rfl, show ((5 : Int) == (2 : Int)) = false from rfl, show ((5 : Int) == (3 : Int)) = false from rfl, show ((5 : Int) == (4 : Int)) = false from rfl, show ((5 : Int) == (5 : Int)) = true from rfl, show ((5 : Int) == (6 : Int)) = false from rfl, show ((5 : Int) == (7 : Int)) = false from rfl, show ((5 : Int) == (8 : Int)) = false from rfl, cond_true, cond_false, shr8]
    repeat' refine ob_step (by (try simp only [List.length_append, List.length_cons, List.length_nil]); omega) ?_
    rfl
  case h3 => simp [enc, byt, col_app, col_cons, col_nil, Ct.int]
  case h4 => (try simp only [List.length_append, List.length_cons, List.length_nil]); omega
theorem enc_6 (wl : List (List Ct)) (x1_1 : Int) (x1_2 : Int) (x1_3 : Int) (x1_4 : Int) (x1_5 : Int) (x1_6 : Int) (x1_7 : Int) (x1_8 : Int) (x1_9 : Int) (x1_10 : Int) (x1_11 : Int) (x1_12 : Int) (x1_13 : Int) (x1_14 : Int) (x1_15 : Int) (x1_16 : Int) (x1_17 : Int) (x1_18 : Int) (x1_19 : Int) (x1_20 : Int) (x1_21 : Int) (x1_22 : Int) (x1_23 : Int) (x1_24 : Int) (x1_25 : Int) (x1_26 : Int) (x1_27 : Int) (x1_28 : Int) (x1_29 : Int) (x1_30 : Int) (x1_31 : Int) (x1_32 : Int) (x1_33 : Int) (x1_34 : Int) (x1_35 : Int) (x1_36 : Int) (x1_37 : List (List Ct)) (x1_38 : Int) (hl : wl.length ≤ 1000000) (hp : x1_37.length ≤ 3000) : Enc (wlay_res wl (6 : Int) x1_1 x1_2 x1_3 x1_4 x1_5 x1_6 x1_7 x1_8 x1_9 x1_10 x1_11 x1_12 x1_13 x1_14 x1_15 x1_16 x1_17 x1_18 x1_19 x1_20 x1_21 x1_22 x1_23 x1_24 x1_25 x1_26 x1_27 x1_28 x1_29 x1_30 x1_31 x1_32 x1_33 x1_34 x1_35 x1_36 x1_37 x1_38) wl (enc (6 : Int) x1_1 x1_2 x1_3 x1_4 x1_5 x1_6 x1_7 x1_8 x1_9 x1_10 x1_11 x1_12 x1_13 x1_14 x1_15 x1_16 x1_17 x1_18 x1_19 x1_20 x1_21 x1_22 x1_23 x1_24 x1_25 x1_26 x1_27 x1_28 x1_29 x1_30 x1_31 x1_32 x1_33 x1_34 x1_35 x1_36 x1_37 x1_38) := by
  refine Exists.intro ?u (And.intro ?h1 (And.intro ?h3 ?h4))
  case h1 =>
    unfold wlay_res
    simp only [show ((6 : Int) == (0 : Int)) = false from rfl, show ((6 : Int) == (1 : Int)) = false from rfl, show ((6 : Int) == (2 : Int)) = false from rfl, show ((6 : Int) == (3 : Int)) = false from rfl, show ((6 : Int) == (4 : Int)) = false from rfl, show ((6 : Int) == (5 : Int)) = false from rfl, show ((6 : Int) == (6 : Int)) = true from rfl, show ((6 : Int) == (7 : Int)) = false from rfl, show ((6 : Int) == (8 : Int)) = false from rfl, cond_true, cond_false, shr8]
    repeat' refine ob_step (by (try simp only [List.length_append, List.length_cons, List.length_nil]); omega) ?_
    rfl
  case h3 => simp [enc, byt, col_app, col_cons, col_nil, Ct.int]
  case h4 => (try simp only [List.length_append, List.length_cons, List.length_nil]); omega
theorem enc_7 (wl : List (List Ct)) (x1_1 : Int) (x1_2 : Int) (x1_3 : Int) (x1_4 : Int) (x1_5 : Int) (x1_6 : Int) (x1_7 : Int) (x1_8 : Int) (x1_9 : Int) (x1_10 : Int) (x1_11 : Int) (x1_12 : Int) (x1_13 : Int) (x1_14 : Int) (x1_15 : Int) (x1_16 : Int) (x1_17 : Int) (x1_18 : Int) (x1_19 : Int) (x1_20 : Int) (x1_21 : Int) (x1_22 : Int) (x1_23 : Int) (x1_24 : Int) (x1_25 : Int) (x1_26 : Int) (x1_27 : Int) (x1_28 : Int) (x1_29 : Int) (x1_30 : Int) (x1_31 : Int) (x1_32 : Int) (x1_33 : Int) (x1_34 : Int) (x1_35 : Int) (x1_36 : Int) (x1_37 : List (List Ct)) (x1_38 : Int) (hl : wl.length ≤ 1000000) (hp : x1_37.length ≤ 3000) : Enc (wlay_res wl (7 : Int) x1_1 x1_2 x1_3 x1_4 x1_5 x1_6 x1_7 x1_8 x1_9 x1_10 x1_11 x1_12 x1_13 x1_14 x1_15 x1_16 x1_17 x1_18 x1_19 x1_20 x1_21 x1_22 x1_23 x1_24 x1_25 x1_26 x1_27 x1_28 x1_29 x1_30 x1_31 x1_32 x1_33 x1_34 x1_35 x1_36 x1_37 x1_38) wl (enc (7 : Int) x1_1 x1_2 x1_3 x1_4 x1_5 x1_6 x1_7 x1_8 x1_9 x1_10 x1_11 x1_12 x1_13 x1_14 x1_15 x1_16 x1_17 x1_18 x1_19 x1_20 x1_21 x1_22 x1_23 x1_24 x1_25 x1_26 x1_27 x1_28 x1_29 x1_30 x1_31 x1_32 x1_33 x1_34 x1_35 x1_36 x1_37 x1_38) := by
  refine Exists.intro ?u (And.intro ?h1 (And.intro ?h3 ?h4))
  case h1 =>
    unfold wlay_res
    simp only [show ((7 : Int) == (0 : Int)) = false from rfl, show ((7 : Int) == (1 : Int)) = false from rfl, show ((7 : Int) == (2 : Int)) = false from rfl, show ((7 : Int) == (3 : Int)) = false from rfl, show ((7 : Int) == (4 : Int)) = false from rfl, show ((7 : Int) == (5 : Int)) = false from rfl, show ((7 : Int) == (6 : Int)) = false from rfl, show ((7 : Int) == (7 : Int)) = true from rfl, show ((7 : Int) == (8 : Int)) = false from rfl, cond_true, cond_false, shr8]
    repeat' refine ob_step (by (try simp only [List.length_append, List.length_cons, List.length_nil]); omega) ?_
    rfl
  case h3 => simp [enc, byt, col_app, col_cons, col_nil, Ct.int]
  case h4 => (try simp only [List.length_append, List.length_cons, List.length_nil]); omega
theorem enc_8 (wl : List (List Ct)) (x1_1 : Int) (x1_2 : Int) (x1_3 : Int) (x1_4 : Int) (x1_5 : Int) (x1_6 : Int) (x1_7 : Int) (x1_8 : Int) (x1_9 : Int) (x1_10 : Int) (x1_11 : Int) (x1_12 : Int) (x1_13 : Int) (x1_14 : Int) (x1_15 : Int) (x1_16 : Int) (x1_17 : Int) (x1_18 : Int) (x1_19 : Int) (x1_20 : Int) (x1_21 : Int) (x1_22 : Int) (x1_23 : Int) (x1_24 : Int) (x1_25 : Int) (x1_26 : Int) (x1_27 : Int) (x1_28 : Int) (x1_29 : Int) (x1_30 : Int) (x1_31 : Int) (x1_32 : Int) (x1_33 : Int) (x1_34 : Int) (x1_35 : Int) (x1_36 : Int) (x1_37 : List (List Ct)) (x1_38 : Int) (hl : wl.length ≤ 1000000) (hp : x1_37.length ≤ 3000) : Enc (wlay_res wl (8 : Int) x1_1 x1_2 x1_3 x1_4 x1_5 x1_6 x1_7 x1_8 x1_9 x1_10 x1_11 x1_12 x1_13 x1_14 x1_15 x1_16 x1_17 x1_18 x1_19 x1_20 x1_21 x1_22 x1_23 x1_24 x1_25 x1_26 x1_27 x1_28 x1_29 x1_30 x1_31 x1_32 x1_33 x1_34 x1_35 x1_36 x1_37 x1_38) wl (enc (8 : Int) x1_1 x1_2 x1_3 x1_4 x1_5 x1_6 x1_7 x1_8 x1_9 x1_10 x1_11 x1_12 x1_13 x1_14 x1_15 x1_16 x1_17 x1_18 x1_19 x1_20 x1_21 x1_22 x1_23 x1_24 x1_25 x1_26 x1_27 x1_28 x1_29 x1_30 x1_31 x1_32 x1_33 x1_34 x1_35 x1_36 x1_37 x1_38) := by
  refine Exists.intro ?u (And.intro ?h1 (And.intro ?h3 ?h4))
  case h1 =>
    unfold wlay_res
    simp only [show ((8 : Int) == (0 : Int)) = false from rfl, show ((8 : Int) == (1 : Int)) = false from rfl, show ((8 : Int) == (2 : Int)) = false from rfl, show ((8 : Int) == (3 : Int)) = false from rfl, show ((8 : Int) == (4 : Int)) = false from rfl, show ((8 : Int) == (5 : Int)) = false from rfl, show ((8 : Int) == (6 : Int)) = false from rfl, show ((8 : Int) == (7 : Int)) = false from rfl, show ((8 : Int) == (8 : Int)) = true from rfl, cond_true, cond_false, shr8]
    repeat' refine ob_step (by (try simp only [List.length_append, List.length_cons, List.length_nil]); omega) ?_
    rfl
  case h3 => simp [enc, byt, col_app, col_cons, col_nil, Ct.int]
  case h4 => (try simp only [List.length_append, List.length_cons, List.length_nil]); omega
theorem enc_9 (wl : List (List Ct)) (x1_0 : Int) (x1_1 : Int) (x1_2 : Int) (x1_3 : Int) (x1_4 : Int) (x1_5 : Int) (x1_6 : Int) (x1_7 : Int) (x1_8 : Int) (x1_9 : Int) (x1_10 : Int) (x1_11 : Int) (x1_12 : Int) (x1_13 : Int) (x1_14 : Int) (x1_15 : Int) (x1_16 : Int) (x1_17 : Int) (x1_18 : Int) (x1_19 : Int) (x1_20 : Int) (x1_21 : Int) (x1_22 : Int) (x1_23 : Int) (x1_24 : Int) (x1_25 : Int) (x1_26 : Int) (x1_27 : Int) (x1_28 : Int) (x1_29 : Int) (x1_30 : Int) (x1_31 : Int) (x1_32 : Int) (x1_33 : Int) (x1_34 : Int) (x1_35 : Int) (x1_36 : Int) (x1_37 : List (List Ct)) (x1_38 : Int) (hl : wl.length ≤ 1000000) (hp : x1_37.length ≤ 3000) (h0 : x1_0 ≠ 0) (h1 : x1_0 ≠ 1) (h2 : x1_0 ≠ 2) (h3 : x1_0 ≠ 3) (h4 : x1_0 ≠ 4) (h5 : x1_0 ≠ 5) (h6 : x1_0 ≠ 6) (h7 : x1_0 ≠ 7) (h8 : x1_0 ≠ 8) : Enc (wlay_res wl x1_0 x1_1 x1_2 x1_3 x1_4 x1_5 x1_6 x1_7 x1_8 x1_9 x1_10 x1_11 x1_12 x1_13 x1_14 x1_15 x1_16 x1_17 x1_18 x1_19 x1_20 x1_21 x1_22 x1_23 x1_24 x1_25 x1_26 x1_27 x1_28 x1_29 x1_30 x1_31 x1_32 x1_33 x1_34 x1_35 x1_36 x1_37 x1_38) wl (enc x1_0 x1_1 x1_2 x1_3 x1_4 x1_5 x1_6 x1_7 x1_8 x1_9 x1_10 x1_11 x1_12 x1_13 x1_14 x1_15 x1_16 x1_17 x1_18 x1_19 x1_20 x1_21 x1_22 x1_23 x1_24 x1_25 x1_26 x1_27 x1_28 x1_29 x1_30 x1_31 x1_32 x1_33 x1_34 x1_35 x1_36 x1_37 x1_38) := by
  refine Exists.intro ?u (And.intro ?h1 (And.intro ?h3 ?h4))
  case h1 =>
    unfold wlay_res
    simp only [(show (x1_0 == (0 : Int)) = false by simpa using h0), (show (x1_0 == (1 : Int)) = false by simpa using h1), (show (x1_0 == (2 : Int)) = false by simpa using h2), (show (x1_0 == (3 : Int)) = false by simpa using h3), (show (x1_0 == (4 : Int)) = false by simpa using h4), (show (x1_0 == (5 : Int)) = false by simpa using h5), (show (x1_0 == (6 : Int)) = false by simpa using h6), (show (x1_0 == (7 : Int)) = false by simpa using h7), (show (x1_0 == (8 : Int)) = false by simpa using h8), cond_true, cond_false, shr8]
    repeat' refine ob_step (by (try simp only [List.length_append, List.length_cons, List.length_nil]); omega) ?_
    rfl
  case h3 => simp [enc, h0, h1, h2, h3, h4, h5, h6, h7, h8]
  case h4 => (try simp only [List.length_append, List.length_cons, List.length_nil]); omega
theorem enc_all (wl : List (List Ct)) (x1_0 : Int) (x1_1 : Int) (x1_2 : Int) (x1_3 : Int) (x1_4 : Int) (x1_5 : Int) (x1_6 : Int) (x1_7 : Int) (x1_8 : Int) (x1_9 : Int) (x1_10 : Int) (x1_11 : Int) (x1_12 : Int) (x1_13 : Int) (x1_14 : Int) (x1_15 : Int) (x1_16 : Int) (x1_17 : Int) (x1_18 : Int) (x1_19 : Int) (x1_20 : Int) (x1_21 : Int) (x1_22 : Int) (x1_23 : Int) (x1_24 : Int) (x1_25 : Int) (x1_26 : Int) (x1_27 : Int) (x1_28 : Int) (x1_29 : Int) (x1_30 : Int) (x1_31 : Int) (x1_32 : Int) (x1_33 : Int) (x1_34 : Int) (x1_35 : Int) (x1_36 : Int) (x1_37 : List (List Ct)) (x1_38 : Int) (hl : wl.length ≤ 1000000) (hp : x1_37.length ≤ 3000) : Enc (wlay_res wl x1_0 x1_1 x1_2 x1_3 x1_4 x1_5 x1_6 x1_7 x1_8 x1_9 x1_10 x1_11 x1_12 x1_13 x1_14 x1_15 x1_16 x1_17 x1_18 x1_19 x1_20 x1_21 x1_22 x1_23 x1_24 x1_25 x1_26 x1_27 x1_28 x1_29 x1_30 x1_31 x1_32 x1_33 x1_34 x1_35 x1_36 x1_37 x1_38) wl (enc x1_0 x1_1 x1_2 x1_3 x1_4 x1_5 x1_6 x1_7 x1_8 x1_9 x1_10 x1_11 x1_12 x1_13 x1_14 x1_15 x1_16 x1_17 x1_18 x1_19 x1_20 x1_21 x1_22 x1_23 x1_24 x1_25 x1_26 x1_27 x1_28 x1_29 x1_30 x1_31 x1_32 x1_33 x1_34 x1_35 x1_36 x1_37 x1_38) := by
  by_cases h0 : x1_0 = 0
  · subst h0; exact enc_0 wl x1_1 x1_2 x1_3 x1_4 x1_5 x1_6 x1_7 x1_8 x1_9 x1_10 x1_11 x1_12 x1_13 x1_14 x1_15 x1_16 x1_17 x1_18 x1_19 x1_20 x1_21 x1_22 x1_23 x1_24 x1_25 x1_26 x1_27 x1_28 x1_29 x1_30 x1_31 x1_32 x1_33 x1_34 x1_35 x1_36 x1_37 x1_38 hl hp
  by_cases h1 : x1_0 = 1
  · subst h1; exact enc_1 wl x1_1 x1_2 x1_3 x1_4 x1_5 x1_6 x1_7 x1_8 x1_9 x1_10 x1_11 x1_12 x1_13 x1_14 x1_15 x1_16 x1_17 x1_18 x1_19 x1_20 x1_21 x1_22 x1_23 x1_24 x1_25 x1_26 x1_27 x1_28 x1_29 x1_30 x1_31 x1_32 x1_33 x1_34 x1_35 x1_36 x1_37 x1_38 hl hp
  by_cases h2 : x1_0 = 2
  · subst h2; exact enc_2 wl x1_1 x1_2 x1_3 x1_4 x1_5 x1_6 x1_7 x1_8 x1_9 x1_10 x1_11 x1_12 x1_13 x1_14 x1_15 x1_16 x1_17 x1_18 x1_19 x1_20 x1_21 x1_22 x1_23 x1_24 x1_25 x1_26 x1_27 x1_28 x1_29 x1_30 x1_31 x1_32 x1_33 x1_34 x1_35 x1_36 x1_37 x1_38 hl hp
  by_cases h3 : x1_0 = 3
  · subst h3; exact enc_3 wl x1_1 x1_2 x1_3 x1_4 x1_5 x1_6 x1_7 x1_8 x1_9 x1_10 x1_11 x1_12 x1_13 x1_14 x1_15 x1_16 x1_17 x1_18 x1_19 x1_20 x1_21 x1_22 x1_23 x1_24 x1_25 x1_26 x1_27 x1_28 x1_29 x1_30 x1_31 x1_32 x1_33 x1_34 x1_35 x1_36 x1_37 x1_38 hl hp
  by_cases h4 : x1_0 = 4
  · subst h4; exact enc_4 wl x1_1 x1_2 x1_3 x1_4 x1_5 x1_6 x1_7 x1_8 x1_9 x1_10 x1_11 x1_12 x1_13 x1_14 x1_15 x1_16 x1_17 x1_18 x1_19 x1_20 x1_21 x1_22 x1_23 x1_24 x1_25 x1_26 x1_27 x1_28 x1_29 x1_30 x1_31 x1_32 x1_33 x1_34 x1_35 x1_36 x1_37 x1_38 hl hp
  by_cases h5 : x1_0 = 5
  · subst h5; exact enc_5 wl x1_1 x1_2 x1_3 x1_4 x1_5 x1_6 x1_7 x1_8 x1_9 x1_10 x1_11 x1_12 x1_13 x1_14 x1_15 x1_16 x1_17 x1_18 x1_19 x1_20 x1_21 x1_22 x1_23 x1_24 x1_25 x1_26 x1_27 x1_28 x1_29 x1_30 x1_31 x1_32 x1_33 x1_34 x1_35 x1_36 x1_37 x1_38 hl hp
  by_cases h6 : x1_0 = 6
  · subst h6; exact enc_6 wl x1_1 x1_2 x1_3 x1_4 x1_5 x1_6 x1_7 x1_8 x1_9 x1_10 x1_11 x1_12 x1_13 x1_14 x1_15 x1_16 x1_17 x1_18 x1_19 x1_20 x1_21 x1_22 x1_23 x1_24 x1_25 x1_26 x1_27 x1_28 x1_29 x1_30 x1_31 x1_32 x1_33 x1_34 x1_35 x1_36 x1_37 x1_38 hl hp
  by_cases h7 : x1_0 = 7
  · subst h7; exact enc_7 wl x1_1 x1_2 x1_3 x1_4 x1_5 x1_6 x1_7 x1_8 x1_9 x1_10 x1_11 x1_12 x1_13 x1_14 x1_15 x1_16 x1_17 x1_18 x1_19 x1_20 x1_21 x1_22 x1_23 x1_24 x1_25 x1_26 x1_27 x1_28 x1_29 x1_30 x1_31 x1_32 x1_33 x1_34 x1_35 x1_36 x1_37 x1_38 hl hp
  by_cases h8 : x1_0 = 8
  · subst h8; exact enc_8 wl x1_1 x1_2 x1_3 x1_4 x1_5 x1_6 x1_7 x1_8 x1_9 x1_10 x1_11 x1_12 x1_13 x1_14 x1_15 x1_16 x1_17 x1_18 x1_19 x1_20 x1_21 x1_22 x1_23 x1_24 x1_25 x1_26 x1_27 x1_28 x1_29 x1_30 x1_31 x1_32 x1_33 x1_34 x1_35 x1_36 x1_37 x1_38 hl hp
  exact enc_9 wl x1_0 x1_1 x1_2 x1_3 x1_4 x1_5 x1_6 x1_7 x1_8 x1_9 x1_10 x1_11 x1_12 x1_13 x1_14 x1_15 x1_16 x1_17 x1_18 x1_19 x1_20 x1_21 x1_22 x1_23 x1_24 x1_25 x1_26 x1_27 x1_28 x1_29 x1_30 x1_31 x1_32 x1_33 x1_34 x1_35 x1_36 x1_37 x1_38 hl hp h0 h1 h2 h3 h4 h5 h6 h7 h8
end Go.Proofs.Ytidhjgcegcfmeaa
