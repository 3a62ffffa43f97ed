/- The law SceneLess in plain numbers. The bound is the statement's own. -/
import Derived.Test.YthgneojhhocflaaSceneChk
import Derived.Test.YthgneojhhocflaaOpenB
import Derived.Test.YthgneojhhocflaaSceneLessT
set_option linter.unusedVariables false
set_option linter.unusedSimpArgs false
namespace Go.Proofs.Ythgneojhhocflaa
open Go.RowKit

/-- All rules are kept. -/
structure Kept (x0 x1 x2 x3 x4 x5 x7 x8 x9 x10 x11 x12 : Int) (P T J S : List (List Ct)) : Prop where
  h : shr_v x0 x1 x2 x3 x4 x5 x7 x8 x9 = true
  p : P.length ≤ 32
  p' : ∀ k, k < P.length → badP P k = false
  t : T.length ≤ 32
  t' : ∀ k, k < T.length → badT T k = false
  j : J.length ≤ 32
  j' : ∀ k, k < J.length → badJ T J k = false
  s : S.length ≤ 128
  s' : ∀ k, k < S.length → badS P J S k = false
  l : sle_v x10 x11 x12 (cT T) = true
  n : (filtR (glows P S) S.length).length ≤ 16
theorem kept_iff {x0 x1 x2 x3 x4 x5 x7 x8 x9 x10 x11 x12 : Int} {P T J S : List (List Ct)} (hP : P.length ≤ 1048576) (hT : T.length ≤ 1048576) (hJ : J.length ≤ 1048576) (hS : S.length ≤ 1048576) : (sch_v x0 x1 x2 x3 x4 x5 x7 x8 x9 x10 x11 x12 (cP P) (cT T) (cJ J) (cS S)).1 = 0 ↔ Kept x0 x1 x2 x3 x4 x5 x7 x8 x9 x10 x11 x12 P T J S := by
  obtain ⟨a1, a2⟩ := al1_ok hP
  obtain ⟨b1, b2⟩ := al2_ok hT
  obtain ⟨c1, c2⟩ := al3_ok (T := T) hJ
  obtain ⟨d1, d2⟩ := al4_ok (P := P) (J := J) hS
  obtain ⟨l1, l2⟩ := sla_ok hS hP
  obtain ⟨s1, s2, s3⟩ := @shr_ok x0 x1 x2 x3 x4 x5 x7 x8 x9
  obtain ⟨e1, e2, e3⟩ := @sle_ok x10 x11 x12 T
  have no : ∀ {f : Nat → Bool} {n : Nat}, (∀ k, k < n → f k = false) → findB f n 0 = none := fun h => findB_none.2 fun j _ hj => h j (by omega)
  have yes : ∀ {f : Nat → Bool} {n : Nat}, findB f n 0 = none → ∀ k, k < n → f k = false := fun h k hk => findB_none.1 h k (by omega) (by omega)
  have key : ∀ {o : Option Nat} {g : Int}, g = optI o → (g ≥ 0 ↔ o ≠ none) := by
    intro o g h
    subst h
    cases o with
    | none => simp [optI]
    | some k => simp [optI]
  unfold sch_v sch_res
  simp only [cP_length, cT_length, cJ_length, cS_length, a1, b1, c1, d1, l1, l2, s1, e1, cond_true, Option.isSome_some]
  cases hh : shr_v x0 x1 x2 x3 x4 x5 x7 x8 x9 with
  | false => simp only [Bool.not_false, cond_true, Option.getD_some]; exact ⟨fun h => by omega, fun h => by have := h.h; rw [hh] at this; cases this⟩
  | true =>
  simp only [Bool.not_true, cond_false]

  by_cases hp : (P.length : Int) > 32
  · simp only [cond_dec hp, Option.getD_some]; exact ⟨fun h => by omega, fun h => by have := h.p; omega⟩
  simp only [cond_not hp]
  by_cases gp : al1_v (P.length : Int) (cP P) ≥ 0
  · simp only [cond_dec gp, Option.getD_some]; exact ⟨fun h => by omega, fun h => by have := (key a2).1 gp; exact absurd (no h.p') this⟩
  have yp : ∀ k, k < P.length → badP P k = false := yes (by cases hf : findB (badP P) P.length 0 with | none => rfl | some i => exact absurd ((key a2).2 (by rw [hf]; exact nofun)) gp)
  simp only [cond_not gp]
  by_cases ht : (T.length : Int) > 32
  · simp only [cond_dec ht, Option.getD_some]; exact ⟨fun h => by omega, fun h => by have := h.t; omega⟩
  simp only [cond_not ht]
  by_cases gt : al2_v (T.length : Int) (cT T) ≥ 0
  · simp only [cond_dec gt, Option.getD_some]; exact ⟨fun h => by omega, fun h => by have := (key b2).1 gt; exact absurd (no h.t') this⟩
  have yt : ∀ k, k < T.length → badT T k = false := yes (by cases hf : findB (badT T) T.length 0 with | none => rfl | some i => exact absurd ((key b2).2 (by rw [hf]; exact nofun)) gt)
  simp only [cond_not gt]
  by_cases hj : (J.length : Int) > 32
  · simp only [cond_dec hj, Option.getD_some]; exact ⟨fun h => by omega, fun h => by have := h.j; omega⟩
  simp only [cond_not hj]
  by_cases gj : al3_v (J.length : Int) (cT T) (cJ J) ≥ 0
  · simp only [cond_dec gj, Option.getD_some]; exact ⟨fun h => by omega, fun h => by have := (key c2).1 gj; exact absurd (no h.j') this⟩
  have yj : ∀ k, k < J.length → badJ T J k = false := yes (by cases hf : findB (badJ T J) J.length 0 with | none => rfl | some i => exact absurd ((key c2).2 (by rw [hf]; exact nofun)) gj)
  simp only [cond_not gj]
  by_cases hs : (S.length : Int) > 128
  · simp only [cond_dec hs, Option.getD_some]; exact ⟨fun h => by omega, fun h => by have := h.s; omega⟩
  simp only [cond_not hs]
  by_cases gs : al4_v (S.length : Int) (cP P) (cJ J) (cS S) ≥ 0
  · simp only [cond_dec gs, Option.getD_some]; exact ⟨fun h => by omega, fun h => by have := (key d2).1 gs; exact absurd (no h.s') this⟩
  have ys : ∀ k, k < S.length → badS P J S k = false := yes (by cases hf : findB (badS P J S) S.length 0 with | none => rfl | some i => exact absurd ((key d2).2 (by rw [hf]; exact nofun)) gs)
  simp only [cond_not gs]
  cases hl : sle_v x10 x11 x12 (cT T) with
  | false => simp only [Bool.not_false, cond_true, Option.getD_some]; exact ⟨fun h => by omega, fun h => by have := h.l; rw [hl] at this; cases this⟩
  | true =>
  simp only [Bool.not_true, cond_false]
  by_cases h5 : ((filtR (glows P S) S.length).length : Int) > 16
  · have h6 : (0 : Int) ≤ 16 ∧ (16 : Int) < ((filtR (glows P S) S.length).length : Int) := by omega
    simp only [cond_dec h5, cond_dec h6, Option.getD_some]; exact ⟨fun h => by omega, fun h => by have := h.n; omega⟩
  · simp only [cond_not h5, Option.getD_some]
    exact ⟨fun _ => ⟨hh, by omega, yp, by omega, yt, by omega, yj, by omega, ys, hl, by omega⟩, fun _ => trivial⟩
theorem ssh_paint {P J : List (List Ct)} (hP : P.length ≤ 1048576) {c0 c1 c2 c3 c4 c5 c6 c7 c8 c9 c10 c11 c12 : Int} (h : ssh_v (cP P) (cJ J) c0 c1 c2 c3 c4 c5 c6 c7 c8 c9 c10 c11 c12 = true) : 0 ≤ c1 ∧ c1 < (P.length : Int) := by
  have w : IntKind.i64.wrap ((P.length : Int) - 1) = (P.length : Int) - 1 := wrap_in (by omega) (by omega)
  apply Classical.byContradiction
  intro hn
  have : ssh_res (cP P) (cJ J) c0 c1 c2 c3 c4 c5 c6 c7 c8 c9 c10 c11 c12 = some false := by
    simp only [ssh_res, cP_length, w]
    by_cases h0 : c1 ≥ 0
    · have e : decide (c1 ≤ (P.length : Int) - 1) = false := decide_eq_false (by omega)
      simp only [e, Bool.not_false, cond_true, cond_same]
    · simp only [cond_not h0, cond_same]
  unfold ssh_v at h
  rw [this] at h
  cases h
theorem ssh_more {P P' J : List (List Ct)} (hP : P.length ≤ P'.length) (hP' : P'.length ≤ 1048576) {c0 c1 c2 c3 c4 c5 c6 c7 c8 c9 c10 c11 c12 : Int} (h : ssh_v (cP P) (cJ J) c0 c1 c2 c3 c4 c5 c6 c7 c8 c9 c10 c11 c12 = true) : ssh_v (cP P') (cJ J) c0 c1 c2 c3 c4 c5 c6 c7 c8 c9 c10 c11 c12 = true := by
  have hp := ssh_paint (by omega) h
  have w : IntKind.i64.wrap ((P.length : Int) - 1) = (P.length : Int) - 1 := wrap_in (by omega) (by omega)
  have w' : IntKind.i64.wrap ((P'.length : Int) - 1) = (P'.length : Int) - 1 := wrap_in (by omega) (by omega)
  have e : decide (c1 ≤ (P.length : Int) - 1) = true := decide_eq_true (by omega)
  have e' : decide (c1 ≤ (P'.length : Int) - 1) = true := decide_eq_true (by omega)
  simp only [ssh_v, ssh_res, cP_length, w, w', e, e'] at h ⊢
  exact h
theorem shr_one {a b c d e f g h i : Int} (k : shr_v a b c d e f g h i = true) : shr_v a b c d 1 f g h i = true := by
  have e1 : decide ((1 : Int) ≥ 1) = true := rfl
  have e2 : decide ((1 : Int) ≤ 32) = true := rfl
  have z : ∀ {c : Bool} {x : Option Bool}, ((bif c then x else some false).getD default = true) ↔ c = true ∧ x.getD default = true := by
    intro c x; cases c <;> simp <;> rfl
  unfold shr_v shr_res at k ⊢
  simp only [z] at k ⊢
  obtain ⟨k1, k2, k3, k4, k5, k6, k7, k8, k9, k10, k11⟩ := k
  exact ⟨k1, k2, k3, k4, k5, k6, k7, k8, e1, e2, k11⟩
theorem rd_take {S : List (List Ct)} {n k j : Nat} (h : k < n) : rd (S.take n) k j = rd S k j := by
  have e : (S.take n).getD k [] = S.getD k [] := by simp [List.getD, List.getElem?_take_of_lt h]
  unfold rd
  rw [e]
theorem cS_part {S : List (List Ct)} {n : Nat} (h : n ≤ S.length) : partOf (cS S) (0 : Int) (n : Int) = cS (S.take n) := by
  unfold partOf cS tab
  rw [Int.toNat_natCast, show (0 : Int).toNat = 0 from rfl, List.drop_zero, Nat.sub_zero, ← List.map_take, List.take_range, List.length_take, Nat.min_eq_left h]
  apply List.map_congr_left
  intro k hk
  have hk : k < n := by simpa using hk
  simp only [gS, rd_take hk]
theorem cP_more {P : List (List Ct)} {r : List Ct} : cP (P ++ [r]) = cP P ++ [[.i (r.getD 0 (.i 0)).int, .i (r.getD 1 (.i 0)).int, .i (r.getD 2 (.i 0)).int, .i (r.getD 3 (.i 0)).int, .i (r.getD 4 (.i 0)).int]] := by
  unfold cP
  rw [List.length_append, List.length_singleton, ← tab_succ]
  congr 1
  · unfold tab
    apply List.map_congr_left
    intro k hk
    have hk : k < P.length := by simpa using hk
    simp only [gP, rd_app_left hk]
  · simp only [gP, rd_app_last rfl]
theorem kept_short {x0 x1 x2 x3 x4 x5 x7 x8 x9 x10 x11 x12 : Int} {P T J S : List (List Ct)} (h : Kept x0 x1 x2 x3 x4 x5 x7 x8 x9 x10 x11 x12 P T J S) {n : Nat} (hn : n ≤ S.length) : Kept x0 x1 x2 x3 x4 x5 x7 x8 x9 x10 x11 x12 P T J (S.take n) := by
  have hl : (S.take n).length = n := by rw [List.length_take]; omega
  refine ⟨h.h, h.p, h.p', h.t, h.t', h.j, h.j', by rw [hl]; have := h.s; omega, fun k hk => ?_, h.l, ?_⟩
  · rw [hl] at hk
    have := h.s' k (by omega)
    simp only [badS, rd_take hk] at this ⊢
    exact this
  · rw [hl, filtR_congr (g := glows P S) (fun k hk => by simp only [glows, rd_take hk])]
    have mono : ∀ (d : Nat), (filtR (glows P S) n).length ≤ (filtR (glows P S) (n + d)).length := by
      intro d
      induction d with
      | zero => exact Nat.le_refl _
      | succ d ih =>
        rw [← Nat.add_assoc]
        simp only [filtR]
        cases glows P S (n + d) with
        | true => simp only [cond_true, List.length_append]; omega
        | false => exact ih
    have := mono (S.length - n)
    rw [show n + (S.length - n) = S.length by omega] at this
    have := h.n
    omega
theorem kept_more {x0 x1 x2 x3 x4 x5 x7 x8 x9 x10 x11 x12 : Int} {P T J S : List (List Ct)} (h : Kept x0 x1 x2 x3 x4 x5 x7 x8 x9 x10 x11 x12 P T J S) (h0 : 0 < P.length) (h1 : P.length < 32) {r : List Ct} (hr : r = P.getD (P.length - 1) []) : Kept x0 x1 x2 x3 x4 x5 x7 x8 x9 x10 x11 x12 (P ++ [r]) T J S := by
  have hl : (P ++ [r]).length = P.length + 1 := by simp
  have hsh : ∀ k, k < S.length → 0 ≤ (rd S k 1).int ∧ (rd S k 1).int < (P.length : Int) := fun k hk => by
    have := h.s' k hk
    simp only [badS, Bool.not_eq_false'] at this
    exact ssh_paint (by omega) this
  refine ⟨h.h, by rw [hl]; omega, fun k hk => ?_, h.t, h.t', h.j, h.j', h.s, fun k hk => ?_, h.l, ?_⟩
  · rw [hl] at hk
    by_cases hkl : k < P.length
    · have := h.p' k hkl
      simp only [badP, rd_app_left hkl] at this ⊢
      exact this
    · obtain rfl : k = P.length := by omega
      have := h.p' (P.length - 1) (by omega)
      simp only [badP, rd_app_last rfl, hr] at this ⊢
      exact this
  · have := h.s' k hk
    simp only [badS, Bool.not_eq_false'] at this ⊢
    exact ssh_more (by rw [hl]; omega) (by rw [hl]; omega) this
  · rw [filtR_congr (g := glows P S) (fun k hk => ?_)]
    · exact h.n
    · obtain ⟨h2, h3⟩ := hsh k hk
      have e : rd (P ++ [r]) (rd S k 1).int.toNat 0 = rd P (rd S k 1).int.toNat 0 := rd_app_left (by omega)
      have e2 : decide ((rd S k 1).int < ((P ++ [r]).length : Int)) = true := decide_eq_true (by rw [hl]; omega)
      have e3 : decide ((rd S k 1).int < (P.length : Int)) = true := decide_eq_true h3
      simp only [glows, e, e2, e3]
theorem kept_one {x0 x1 x2 x3 x4 x5 x7 x8 x9 x10 x11 x12 : Int} {P T J S : List (List Ct)} (h : Kept x0 x1 x2 x3 x4 x5 x7 x8 x9 x10 x11 x12 P T J S) : Kept x0 x1 x2 x3 1 x5 x7 x8 x9 x10 x11 x12 P T J S := ⟨shr_one h.h, h.p, h.p', h.t, h.t', h.j, h.j', h.s, h.s', h.l, h.n⟩
theorem lsl_true (x0 x1 x2 x3 x4 x5 x6 x7 x8 x9 x10 x11 x12 : Int) (P T J S : List (List Ct)) (hP : P.length ≤ 1048576) (hT : T.length ≤ 1048576) (hK : ∀ k, k < T.length → (rd T k 1).rows.length ≤ 1048576) (hJ : J.length ≤ 1048576) (hS : S.length ≤ 1048576) : lsl_res x0 x1 x2 x3 x4 x5 x6 x7 x8 x9 x10 x11 x12 P T J S = some true := by
  obtain ⟨b, h1, h2, _⟩ := lsm_ok (P := P) (T := T) (J := J) (S := S) (by omega)
  obtain ⟨a1, a2⟩ := sto_ok (x0 := x0) (x1 := x1) (x2 := x2) (x3 := x3) (x4 := x4) (x5 := x5) (x6 := x6) (x7 := x7) (x8 := x8) (x9 := x9) (x10 := x10) (x11 := x11) (x12 := x12) (P := P) (T := T) (J := J) (S := S) hP hT hK hJ hS
  have tot : ∀ (y4 : Int) (P S : List (List Ct)), P.length ≤ 1048576 → S.length ≤ 1048576 → (sch_res x0 x1 x2 x3 y4 x5 x7 x8 x9 x10 x11 x12 (cP P) (cT T) (cJ J) (cS S)).isSome = true := fun y4 P S hP hS => (check_ok hP hT hJ hS).1
  unfold lsl_res
  simp only [h1, h2, a1, a2, Option.isSome_some, cond_true, tot x4 P S hP hS]
  cases b with
  | false => rfl
  | true =>
  simp only [Bool.not_true, cond_false]
  by_cases hk : (sch_v x0 x1 x2 x3 x4 x5 x7 x8 x9 x10 x11 x12 (cP P) (cT T) (cJ J) (cS S)).1 = 0
  · have k0 := (kept_iff hP hT hJ hS).1 hk
    have hp32 := k0.p
    have e0 : ((sch_v x0 x1 x2 x3 x4 x5 x7 x8 x9 x10 x11 x12 (cP P) (cT T) (cJ J) (cS S)).1 != 0) = false := by rw [hk]; rfl
    have e0' : ((sch_v x0 x1 x2 x3 x4 x5 x7 x8 x9 x10 x11 x12 (cP P) (cT T) (cJ J) (cS S)).1 == 0) = true := by rw [hk]; rfl
    have e1 : ((sch_v x0 x1 x2 x3 1 x5 x7 x8 x9 x10 x11 x12 (cP P) (cT T) (cJ J) (cS S)).1 == 0) = true := by rw [(kept_iff hP hT hJ hS).2 (kept_one k0)]; rfl
    have t1 := tot 1 P S hP hS
    have t0 := tot x4 P S hP hS
    -- without the last shape
    have eS : 0 < S.length → partOf (cS S) (0 : Int) (IntKind.i64.wrap ((S.length : Int) - 1)) = cS (S.take (S.length - 1)) := fun h => by
      rw [wrap_in (by omega) (by omega), show (S.length : Int) - 1 = ((S.length - 1 : Nat) : Int) by omega]
      exact cS_part (by omega)
    have t2 := tot x4 P (S.take (S.length - 1)) hP (by rw [List.length_take]; omega)
    have e2 : ((sch_v x0 x1 x2 x3 x4 x5 x7 x8 x9 x10 x11 x12 (cP P) (cT T) (cJ J) (cS (S.take (S.length - 1)))).1 == 0) = true := by rw [(kept_iff hP hT hJ (by rw [List.length_take]; omega)).2 (kept_short k0 (by omega))]; rfl
    -- with the last paint once more
    have eP : 0 < P.length → [] ++ cP P ++ [[Ct.i (rd (cP P) (IntKind.i64.wrap ((P.length : Int) - 1)).toNat 0).int, Ct.i (rd (cP P) (IntKind.i64.wrap ((P.length : Int) - 1)).toNat 1).int, Ct.i (rd (cP P) (IntKind.i64.wrap ((P.length : Int) - 1)).toNat 2).int, Ct.i (rd (cP P) (IntKind.i64.wrap ((P.length : Int) - 1)).toNat 3).int, Ct.i (rd (cP P) (IntKind.i64.wrap ((P.length : Int) - 1)).toNat 4).int]] = cP (P ++ [P.getD (P.length - 1) []]) := fun h => by
      rw [wrap_in (by omega) (by omega), show (P.length : Int) - 1 = ((P.length - 1 : Nat) : Int) by omega, Int.toNat_natCast, cP_more]
      obtain ⟨f0, f1, f2, f3, f4⟩ := cP_rd (x := P) (k := P.length - 1) (by omega)
      rw [f0, f1, f2, f3, f4]
      rfl
    have l3 : (P ++ [P.getD (P.length - 1) []]).length = P.length + 1 := by simp
    have t3 := tot x4 (P ++ [P.getD (P.length - 1) []]) S (by rw [l3]; omega) hS
    have e3 : 0 < P.length → P.length < 32 → ((sch_v x0 x1 x2 x3 x4 x5 x7 x8 x9 x10 x11 x12 (cP (P ++ [P.getD (P.length - 1) []])) (cT T) (cJ J) (cS S)).1 == 0) = true := fun h h' => by rw [(kept_iff (by rw [l3]; omega) hT hJ hS).2 (kept_more k0 h h' rfl)]; rfl
    simp only [e0, cond_false, cP_length, cT_length, cJ_length, cS_length]
    have w1 : IntKind.i64.wrap ((S.length : Int) - 1) = (S.length : Int) - 1 := wrap_in (by omega) (by omega)
    have w2 : IntKind.i64.wrap ((P.length : Int) - 1) = (P.length : Int) - 1 := wrap_in (by omega) (by omega)
    have q4 : 0 + P.length ≤ 9223372036854775807 ∧ (0 + P.length) * 40 ≤ 140737488355328 := by omega
    by_cases hs0 : (S.length : Int) > 0
    · have q1 : (0 : Int) ≤ 0 ∧ (0 : Int) ≤ IntKind.i64.wrap ((S.length : Int) - 1) ∧ IntKind.i64.wrap ((S.length : Int) - 1) ≤ (S.length : Int) := by rw [w1]; omega
      simp only [cond_dec hs0, cond_dec q1, eS (by omega)]
      by_cases hp0 : (P.length : Int) > 0
      · by_cases hp1 : (P.length : Int) < 32
        · have q5 : (0 : Int) ≤ IntKind.i64.wrap ((P.length : Int) - 1) ∧ IntKind.i64.wrap ((P.length : Int) - 1) < (P.length : Int) := by rw [w2]; omega
          simp only [cond_dec hp0, cond_dec hp1, cond_dec q4, cond_dec q5, eP (by omega), t1, t2, t3, e1, e2, e3 (by omega) (by omega), cond_true]
          rw [cond_dec (by simp only [List.length_append, List.length_nil, cP_length, List.length_cons]; omega)]
        · simp only [cond_dec hp0, cond_not hp1, t0, t1, t2, e0', e1, e2, cond_true]
      · simp only [cond_not hp0, t0, t1, t2, e0', e1, e2, cond_true]
    · simp only [cond_not hs0]
      by_cases hp0 : (P.length : Int) > 0
      · by_cases hp1 : (P.length : Int) < 32
        · have q5 : (0 : Int) ≤ IntKind.i64.wrap ((P.length : Int) - 1) ∧ IntKind.i64.wrap ((P.length : Int) - 1) < (P.length : Int) := by rw [w2]; omega
          simp only [cond_dec hp0, cond_dec hp1, cond_dec q4, cond_dec q5, eP (by omega), t0, t1, t3, e0', e1, e3 (by omega) (by omega), cond_true]
          rw [cond_dec (by simp only [List.length_append, List.length_nil, cP_length, List.length_cons]; omega)]
        · simp only [cond_dec hp0, cond_not hp1, t0, t1, e0', e1, cond_true]
      · simp only [cond_not hp0, t0, t1, e0', e1, cond_true]
  · have e0 : ((sch_v x0 x1 x2 x3 x4 x5 x7 x8 x9 x10 x11 x12 (cP P) (cT T) (cJ J) (cS S)).1 != 0) = true := by simpa using hk
    simp only [e0, cond_true]
theorem lsl_call (x0 x1 x2 x3 x4 x5 x6 x7 x8 x9 x10 x11 x12 : Int) (P T J S : List (List Ct)) (hP : P.length ≤ 1048576) (hT : T.length ≤ 1048576 ∧ ∀ i, i < T.length → ∀ (j : Nat) s, ([.int .i64, .sl [.int .i64, .int .i64, .int .i64, .int .i64]] : List Sh)[j]? = some s → CtB 1048576 7 s (rd T i j)) (hJ : J.length ≤ 1048576) (hS : S.length ≤ 1048576) : CallOk Try.prog 4 [.sv (.agg [.val false (.int .i64 x0), .val false (.int .i64 x1), .val false (.int .i64 x2), .val false (.int .i64 x3), .val false (.int .i64 x4), .val false (.int .i64 x5), .val false (.int .u64 x6), .val false (.int .i64 x7), .val false (.int .i64 x8), .val false (.int .i64 x9), .val false (.int .i64 x10), .val false (.int .i64 x11), .val false (.int .i64 x12), .ext 0, .ext 1, .ext 2, .ext 3])] [(0, .grid [.int .i64, .int .i64, .int .i64, .int .i64, .int .i64] P), (1, .grid [.int .i64, .sl [.int .i64, .int .i64, .int .i64, .int .i64]] T), (2, .grid [.int .i64, .int .i64, .int .i64, .int .i64] J), (3, .grid [.int .i64, .int .i64, .int .i64, .int .i64, .int .i64, .int .i64, .int .i64, .int .i64, .int .i64, .int .i64, .int .i64, .int .i64, .int .i64] S)] 4 (lsl_O true) := lsl_tree (lsl_true x0 x1 x2 x3 x4 x5 x6 x7 x8 x9 x10 x11 x12 P T J S hP hT.1 (fun k hk => (hT.2 k hk 1 _ rfl).1) hJ hS)
end Go.Proofs.Ythgneojhhocflaa
