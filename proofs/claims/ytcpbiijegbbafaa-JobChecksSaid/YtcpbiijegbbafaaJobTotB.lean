/- A reader's parts: what they answer, whatever the bytes are; what was laid is read. No condition. -/
import Derived.Test.YtcpbiijegbbafaaJobTot
set_option linter.unusedVariables false
set_option linter.unusedSimpArgs false
namespace Go.Proofs.Ytcpbiijegbbafaa
open Go.RowKit

theorem mg_t {b : List (List Ct)} (e : Int) (hB : Byt (col b)) :
    ∃ e' b', (jmg_res b e = some (e', b') ∧ jmg_v b e = (e', b')) ∧ Byt (col b') ∧ b'.length ≤ b.length ∧ (e' = 0 → e = 0 ∧ col b = bM ++ col b') := by
  have L4 : ((([[Ct.i (90 : Int)], [Ct.i (79 : Int)], [Ct.i (69 : Int)], [Ct.i (49 : Int)]] : List (List Ct)).length : Nat) : Int) = 4 := rfl
  have hx : ∀ k : Nat, k < 4 → ∃ c : Int, (rd [[Ct.i (90 : Int)], [Ct.i (79 : Int)], [Ct.i (69 : Int)], [Ct.i (49 : Int)]] k 0).int = c ∧ IntKind.i64.wrap c = c ∧ bM.drop k = bw 1 c ++ bM.drop (k + 1) := by
    intro k hk
    have c : k = 0 ∨ k = 1 ∨ k = 2 ∨ k = 3 := by omega
    rcases c with rfl | rfl | rfl | rfl
    · exact ⟨90, rfl, rfl, rfl⟩
    · exact ⟨79, rfl, rfl, rfl⟩
    · exact ⟨69, rfl, rfl, rfl⟩
    · exact ⟨49, rfl, rfl, rfl⟩
  have main : ∀ (d : Nat) (e : Int) (b : List (List Ct)) (fuel : Nat), d ≤ 4 → d < fuel → Byt (col b) → ∃ e' b', iter jmg_L0_step fuel (((4 - d : Nat) : Int), e, b) = some (4, e', b') ∧ Byt (col b') ∧ b'.length ≤ b.length ∧ (e' = 0 → e = 0 ∧ col b = bM.drop (4 - d) ++ col b') := by
    intro d
    induction d with
    | zero =>
      intro e b fuel hd hf hB
      obtain ⟨fuel, rfl⟩ : ∃ j, fuel = j + 1 := ⟨fuel - 1, by omega⟩
      refine ⟨e, b, iter_inr ?_, hB, Nat.le_refl _, fun h => ⟨h, rfl⟩⟩
      simp only [jmg_L0_step, L4, Nat.sub_zero]
      rw [cond_not (by omega)]; rfl
    | succ d ih =>
      intro e b fuel hd hf hB
      obtain ⟨fuel, rfl⟩ : ∃ j, fuel = j + 1 := ⟨fuel - 1, by omega⟩
      have q1 : ((4 - (d + 1) : Nat) : Int) < 4 := by omega
      have q2 : (0 : Int) ≤ ((4 - (d + 1) : Nat) : Int) ∧ ((4 - (d + 1) : Nat) : Int) < 4 := by omega
      have w1 : IntKind.i64.wrap (((4 - (d + 1) : Nat) : Int) + 1) = ((4 - d : Nat) : Int) := by rw [wrap_in (by omega) (by omega)]; omega
      obtain ⟨v, e0, b0, ⟨r1, r2⟩, B0, l0, i0⟩ := by_t e hB
      obtain ⟨c, hc, hw, hdr⟩ := hx (4 - (d + 1)) (by omega)
      rw [show 4 - (d + 1) + 1 = 4 - d by omega] at hdr
      by_cases he : e0 = 0
      · subst he
        by_cases hv : v = c
        · subst hv
          have hst : jmg_L0_step (((4 - (d + 1) : Nat) : Int), e, b) = some (.inl (((4 - d : Nat) : Int), 0, b0)) := by
            simp only [jmg_L0_step, L4, cond_dec q1, cond_dec q2, r1, r2, Option.isSome_some, cond_true, Int.toNat_natCast, hc, hw, w1, bne_self_eq_false, cond_false, beq_self_eq_true]
          obtain ⟨e', b', g1, g2, g3, g4⟩ := ih 0 b0 fuel (by omega) (by omega) B0
          refine ⟨e', b', by rw [iter_inl hst]; exact g1, g2, by omega, fun h => ?_⟩
          obtain ⟨_, k2⟩ := g4 h
          obtain ⟨h5, h6, h7⟩ := i0 rfl
          exact ⟨h5, by rw [h7, k2, hdr, List.append_assoc]⟩
        · have hn : (v != c) = true := by simpa using hv
          have hst : jmg_L0_step (((4 - (d + 1) : Nat) : Int), e, b) = some (.inl (((4 - d : Nat) : Int), 20, [])) := by
            simp only [jmg_L0_step, L4, cond_dec q1, cond_dec q2, r1, r2, Option.isSome_some, cond_true, Int.toNat_natCast, hc, hw, w1, hn, beq_self_eq_true]
          obtain ⟨e', b', g1, g2, g3, g4⟩ := ih 20 [] fuel (by omega) (by omega) (fun y hy => (by cases hy))
          exact ⟨e', b', by rw [iter_inl hst]; exact g1, g2, (by simp only [List.length_nil] at g3; omega), fun h => absurd (g4 h).1 (by omega)⟩
      · have hb1 : (e0 == 0) = false := by simpa using he
        have hst : jmg_L0_step (((4 - (d + 1) : Nat) : Int), e, b) = some (.inl (((4 - d : Nat) : Int), e0, b0)) := by
          simp only [jmg_L0_step, L4, cond_dec q1, cond_dec q2, r1, r2, Option.isSome_some, cond_true, w1, hb1, cond_false]
        obtain ⟨e', b', g1, g2, g3, g4⟩ := ih e0 b0 fuel (by omega) (by omega) B0
        exact ⟨e', b', by rw [iter_inl hst]; exact g1, g2, by omega, fun h => absurd (g4 h).1 he⟩
  obtain ⟨e', b', g1, g2, g3, g4⟩ := main 4 e b 5 (by omega) (by omega) hB
  have q : jmg_L0_p b e = true := by unfold jmg_L0_p; exact congrArg Option.isSome g1
  have q2 : jmg_L0_v b e = (4, e', b') := by unfold jmg_L0_v loopRes; exact congrArg (fun o : Option (Int × Int × List (List Ct)) => o.getD default) g1
  have h1 : jmg_res b e = some (e', b') := by
    unfold jmg_res
    rw [q, q2]; rfl
  exact ⟨e', b', ⟨h1, by unfold jmg_v; rw [h1]; rfl⟩, g2, g3, g4⟩
theorem mg_f {b : List (List Ct)} {t : List Int} (hB : Byt (col b)) (hc : col b = bM ++ t) : ∃ b', (jmg_res b 0 = some (0, b') ∧ jmg_v b 0 = (0, b')) ∧ Byt (col b') ∧ col b' = t := by
  have L4 : ((([[Ct.i (90 : Int)], [Ct.i (79 : Int)], [Ct.i (69 : Int)], [Ct.i (49 : Int)]] : List (List Ct)).length : Nat) : Int) = 4 := rfl
  have hx : ∀ k : Nat, k < 4 → ∃ c : Int, (rd [[Ct.i (90 : Int)], [Ct.i (79 : Int)], [Ct.i (69 : Int)], [Ct.i (49 : Int)]] k 0).int = c ∧ IntKind.i64.wrap c = c ∧ bM.drop k = bw 1 c ++ bM.drop (k + 1) ∧ (0 ≤ c ∧ c < 256) := by
    intro k hk
    have c : k = 0 ∨ k = 1 ∨ k = 2 ∨ k = 3 := by omega
    rcases c with rfl | rfl | rfl | rfl
    · exact ⟨90, rfl, rfl, rfl, by omega⟩
    · exact ⟨79, rfl, rfl, rfl, by omega⟩
    · exact ⟨69, rfl, rfl, rfl, by omega⟩
    · exact ⟨49, rfl, rfl, rfl, by omega⟩
  have main : ∀ (d : Nat) (b : List (List Ct)) (fuel : Nat), d ≤ 4 → d < fuel → Byt (col b) → col b = bM.drop (4 - d) ++ t → ∃ b', iter jmg_L0_step fuel (((4 - d : Nat) : Int), 0, b) = some (4, 0, b') ∧ Byt (col b') ∧ col b' = t := by
    intro d
    induction d with
    | zero =>
      intro b fuel hd hf hB hc
      obtain ⟨fuel, rfl⟩ : ∃ j, fuel = j + 1 := ⟨fuel - 1, by omega⟩
      refine ⟨b, iter_inr ?_, hB, hc⟩
      simp only [jmg_L0_step, L4, Nat.sub_zero]
      rw [cond_not (by omega)]; rfl
    | succ d ih =>
      intro b fuel hd hf hB hcc
      obtain ⟨fuel, rfl⟩ : ∃ j, fuel = j + 1 := ⟨fuel - 1, by omega⟩
      have q1 : ((4 - (d + 1) : Nat) : Int) < 4 := by omega
      have q2 : (0 : Int) ≤ ((4 - (d + 1) : Nat) : Int) ∧ ((4 - (d + 1) : Nat) : Int) < 4 := by omega
      have w1 : IntKind.i64.wrap (((4 - (d + 1) : Nat) : Int) + 1) = ((4 - d : Nat) : Int) := by rw [wrap_in (by omega) (by omega)]; omega
      obtain ⟨c, hc, hw, hdr, hcr⟩ := hx (4 - (d + 1)) (by omega)
      rw [show 4 - (d + 1) + 1 = 4 - d by omega] at hdr
      rw [hdr, List.append_assoc] at hcc
      obtain ⟨b0, ⟨r1, r2⟩, B0, c0⟩ := by_f hB hcr hcc
      have hst : jmg_L0_step (((4 - (d + 1) : Nat) : Int), 0, b) = some (.inl (((4 - d : Nat) : Int), 0, b0)) := by
        simp only [jmg_L0_step, L4, cond_dec q1, cond_dec q2, r1, r2, Option.isSome_some, cond_true, Int.toNat_natCast, hc, hw, w1, bne_self_eq_false, cond_false, beq_self_eq_true]
      obtain ⟨b', g1, g2, g3⟩ := ih b0 fuel (by omega) (by omega) B0 c0
      exact ⟨b', by rw [iter_inl hst]; exact g1, g2, g3⟩
  obtain ⟨b', g1, g2, g3⟩ := main 4 b 5 (by omega) (by omega) hB hc
  have q : jmg_L0_p b 0 = true := by unfold jmg_L0_p; exact congrArg Option.isSome g1
  have q2 : jmg_L0_v b 0 = (4, 0, b') := by unfold jmg_L0_v loopRes; exact congrArg (fun o : Option (Int × Int × List (List Ct)) => o.getD default) g1
  have h1 : jmg_res b 0 = some (0, b') := by
    unfold jmg_res
    rw [q, q2]; rfl
  exact ⟨b', ⟨h1, by unfold jmg_v; rw [h1]; rfl⟩, g2, g3⟩
/-- A header's numbers as they may be laid. -/
def VHd (x0 x1 x2 x3 x4 x5 x6 x7 x8 x9 x10 x11 x12 : Int) : Prop := (0 ≤ x0 ∧ x0 < 65536) ∧ (0 ≤ x1 ∧ x1 < 65536) ∧ (0 ≤ x2 ∧ x2 < 65536) ∧ (0 ≤ x3 ∧ x3 < 65536) ∧ (0 ≤ x4 ∧ x4 < 65536) ∧ Fx x5 ∧ (0 ≤ x6 ∧ x6 < 18446744073709551616) ∧ (Fx x7 ∧ Fx x8 ∧ Fx x9) ∧ (0 ≤ x10 ∧ x10 < 65536) ∧ (0 ≤ x11 ∧ x11 < 65536) ∧ Fx x12
theorem hd_t {b : List (List Ct)} (e : Int) (hB : Byt (col b)) :
    ∃ x0 x1 x2 x3 x4 x5 x6 x7 x8 x9 x10 x11 x12 e' b', (jhd_res b e = some (e', x0, x1, x2, x3, x4, x5, x6, x7, x8, x9, x10, x11, x12, b') ∧ jhd_v b e = (e', x0, x1, x2, x3, x4, x5, x6, x7, x8, x9, x10, x11, x12, b')) ∧ Byt (col b') ∧ b'.length ≤ b.length ∧ (e' = 0 → e = 0 ∧ VHd x0 x1 x2 x3 x4 x5 x6 x7 x8 x9 x10 x11 x12 ∧ col b = bH x0 x1 x2 x3 x4 x5 x6 x7 x8 x9 x10 x11 x12 ++ col b') := by
  obtain ⟨x0, e0, b0, ⟨r0, s0⟩, B0, l0, i0⟩ := ha_t e hB
  obtain ⟨x1, e1, b1, ⟨r1, s1⟩, B1, l1, i1⟩ := ha_t e0 B0
  obtain ⟨x2, e2, b2, ⟨r2, s2⟩, B2, l2, i2⟩ := ha_t e1 B1
  obtain ⟨x3, e3, b3, ⟨r3, s3⟩, B3, l3, i3⟩ := ha_t e2 B2
  obtain ⟨x4, e4, b4, ⟨r4, s4⟩, B4, l4, i4⟩ := ha_t e3 B3
  obtain ⟨x5, e5, b5, ⟨r5, s5⟩, B5, l5, i5⟩ := fx_t e4 B4
  obtain ⟨x6, e6, b6, ⟨r6, s6⟩, B6, l6, i6⟩ := lo_t e5 B5
  obtain ⟨x7, x8, x9, e7, b7, ⟨r7, s7⟩, ⟨t7, u7⟩, B7, l7, i7⟩ := vc_t e6 B6
  obtain ⟨x10, e8, b8, ⟨r8, s8⟩, B8, l8, i8⟩ := ha_t e7 B7
  obtain ⟨x11, e9, b9, ⟨r9, s9⟩, B9, l9, i9⟩ := ha_t e8 B8
  obtain ⟨x12, e10, b10, ⟨r10, s10⟩, B10, l10, i10⟩ := fx_t e9 B9
  have h : jhd_res b e = some (e10, x0, x1, x2, x3, x4, x5, x6, x7, x8, x9, x10, x11, x12, b10) := by
    unfold jhd_res
    simp only [jhd_c17184720, jhd_c35502068, jhd_c36481480, jhd_c44496859, jhd_c66210604, jhd_c71052834, jhd_c85590025, jhd_c89713168, jhd_c90178404, jhd_c95884390, r0, s0, r1, s1, r2, s2, r3, s3, r4, s4, r5, s5, r6, s6, r7, s7, t7, u7, r8, s8, r9, s9, r10, s10, Option.isSome_some, cond_true]
  refine ⟨x0, x1, x2, x3, x4, x5, x6, x7, x8, x9, x10, x11, x12, e10, b10, ⟨h, by unfold jhd_v; rw [h]; rfl⟩, B10, by omega, fun h => ?_⟩
  obtain ⟨h10, v10, c10⟩ := i10 h
  obtain ⟨h9, v9, c9⟩ := i9 h10
  obtain ⟨h8, v8, c8⟩ := i8 h9
  obtain ⟨h7, v7, c7⟩ := i7 h8
  obtain ⟨h6, v6, c6⟩ := i6 h7
  obtain ⟨h5, v5, c5⟩ := i5 h6
  obtain ⟨h4, v4, c4⟩ := i4 h5
  obtain ⟨h3, v3, c3⟩ := i3 h4
  obtain ⟨h2, v2, c2⟩ := i2 h3
  obtain ⟨h1, v1, c1⟩ := i1 h2
  obtain ⟨h0, v0, c0⟩ := i0 h1
  refine ⟨h0, ⟨v0, v1, v2, v3, v4, v5, v6, v7, v8, v9, v10⟩, ?_⟩
  rw [c0, c1, c2, c3, c4, c5, c6, c7, c8, c9, c10]
  simp only [bH, List.append_assoc]
theorem hd_f {b : List (List Ct)} {t : List Int} {x0 x1 x2 x3 x4 x5 x6 x7 x8 x9 x10 x11 x12 : Int} (hB : Byt (col b)) (hv : VHd x0 x1 x2 x3 x4 x5 x6 x7 x8 x9 x10 x11 x12) (hc : col b = bH x0 x1 x2 x3 x4 x5 x6 x7 x8 x9 x10 x11 x12 ++ t) :
    ∃ b', (jhd_res b 0 = some (0, x0, x1, x2, x3, x4, x5, x6, x7, x8, x9, x10, x11, x12, b') ∧ jhd_v b 0 = (0, x0, x1, x2, x3, x4, x5, x6, x7, x8, x9, x10, x11, x12, b')) ∧ Byt (col b') ∧ col b' = t := by
  obtain ⟨v0, v1, v2, v3, v4, v5, v6, v7, v8, v9, v10⟩ := hv
  simp only [bH, List.append_assoc] at hc
  obtain ⟨b0, ⟨r0, s0⟩, B0, c0⟩ := ha_f hB v0 hc
  obtain ⟨b1, ⟨r1, s1⟩, B1, c1⟩ := ha_f B0 v1 c0
  obtain ⟨b2, ⟨r2, s2⟩, B2, c2⟩ := ha_f B1 v2 c1
  obtain ⟨b3, ⟨r3, s3⟩, B3, c3⟩ := ha_f B2 v3 c2
  obtain ⟨b4, ⟨r4, s4⟩, B4, c4⟩ := ha_f B3 v4 c3
  obtain ⟨b5, ⟨r5, s5⟩, B5, c5⟩ := fx_f B4 v5 c4
  obtain ⟨b6, ⟨r6, s6⟩, B6, c6⟩ := lo_f B5 v6 c5
  obtain ⟨b7, ⟨r7, s7⟩, ⟨t7, u7⟩, B7, c7⟩ := vc_f B6 v7 c6
  obtain ⟨b8, ⟨r8, s8⟩, B8, c8⟩ := ha_f B7 v8 c7
  obtain ⟨b9, ⟨r9, s9⟩, B9, c9⟩ := ha_f B8 v9 c8
  obtain ⟨b10, ⟨r10, s10⟩, B10, c10⟩ := fx_f B9 v10 c9
  have h : jhd_res b 0 = some (0, x0, x1, x2, x3, x4, x5, x6, x7, x8, x9, x10, x11, x12, b10) := by
    unfold jhd_res
    simp only [jhd_c17184720, jhd_c35502068, jhd_c36481480, jhd_c44496859, jhd_c66210604, jhd_c71052834, jhd_c85590025, jhd_c89713168, jhd_c90178404, jhd_c95884390, r0, s0, r1, s1, r2, s2, r3, s3, r4, s4, r5, s5, r6, s6, r7, s7, t7, u7, r8, s8, r9, s9, r10, s10, Option.isSome_some, cond_true]
  exact ⟨b10, ⟨h, by unfold jhd_v; rw [h]; rfl⟩, B10, c10⟩
/-- Pieces, row by row. -/
theorem catF_flat {f : List Ct → List Int} {l : List (List Ct)} : catF (fun k => f (l.getD k [])) l.length = l.flatMap f := by
  have main : ∀ n, n ≤ l.length → catF (fun k => f (l.getD k [])) n = (l.take n).flatMap f := by
    intro n
    induction n with
    | zero => intro _; rfl
    | succ n ih =>
      intro h
      simp only [catF]
      rw [ih (by omega), List.take_add_one, List.flatMap_append]
      congr 1
      have hn : n < l.length := by omega
      simp [List.getD, hn]
  rw [main l.length (Nat.le_refl _), List.take_length]
def eP (r : List Ct) : List Int := bw 1 (r.getD 0 (.i 0)).int ++ (b3 (r.getD 1 (.i 0)).int (r.getD 2 (.i 0)).int (r.getD 3 (.i 0)).int ++ bw 5 (r.getD 4 (.i 0)).int)
def eK (r : List Ct) : List Int := bw 5 (r.getD 0 (.i 0)).int ++ b3 (r.getD 1 (.i 0)).int (r.getD 2 (.i 0)).int (r.getD 3 (.i 0)).int
def eJ (r : List Ct) : List Int := bw 2 (r.getD 0 (.i 0)).int ++ (bw 2 (r.getD 1 (.i 0)).int ++ (bw 2 (r.getD 2 (.i 0)).int ++ bw 5 (r.getD 3 (.i 0)).int))
def eT (r : List Ct) : List Int := bw 1 (r.getD 0 (.i 0)).int ++ (bw 1 ((r.getD 1 (.i 0)).rows.length : Int) ++ (r.getD 1 (.i 0)).rows.flatMap eK)
def eS (r : List Ct) : List Int := bS13 (r.getD 0 (.i 0)).int (r.getD 1 (.i 0)).int (r.getD 2 (.i 0)).int (r.getD 3 (.i 0)).int (r.getD 4 (.i 0)).int (r.getD 5 (.i 0)).int (r.getD 6 (.i 0)).int (r.getD 7 (.i 0)).int (r.getD 8 (.i 0)).int (r.getD 9 (.i 0)).int (r.getD 10 (.i 0)).int (r.getD 11 (.i 0)).int (r.getD 12 (.i 0)).int
theorem catP {l : List (List Ct)} : catF (bP l) l.length = l.flatMap eP := catF_flat (f := eP)
theorem catK {l : List (List Ct)} : catF (bK l) l.length = l.flatMap eK := catF_flat (f := eK)
theorem catJ {l : List (List Ct)} : catF (bJ l) l.length = l.flatMap eJ := catF_flat (f := eJ)
theorem catS {l : List (List Ct)} : catF (bS l) l.length = l.flatMap eS := catF_flat (f := eS)
theorem catT {l : List (List Ct)} : catF (bT l) l.length = l.flatMap eT := by
  rw [← catF_flat (f := eT)]
  refine catF_congr fun k hk => ?_
  simp only [bT, catK]
  rfl
/-- A loop that reads rows: whatever comes; what was laid. -/
theorem t_loop {S : Type} {step : S → Option (S ⊕ S)} (mk : Int → Int → List (List Ct) → List (List Ct) → S) (f : List Ct → List Int) (V : List Ct → Prop)
    (h0 : ∀ e b rows, step (mk 0 e b rows) = some (.inr (mk 0 e b rows)))
    (h1 : ∀ (d : Nat) e b rows, e ≠ 0 → d < 256 → step (mk ((d + 1 : Nat) : Int) e b rows) = some (.inr (mk ((d + 1 : Nat) : Int) e b rows)))
    (h2 : ∀ (d : Nat) b rows, d < 256 → rows.length + d ≤ 300 → Byt (col b) → ∃ e' b' r, step (mk ((d + 1 : Nat) : Int) 0 b rows) = some (.inl (mk (d : Int) e' b' (rows ++ [r]))) ∧ Byt (col b') ∧ b'.length ≤ b.length ∧ (e' = 0 → V r ∧ col b = f r ++ col b')) :
    ∀ (d : Nat) e b rows fuel, d < 256 → d < fuel → rows.length + d ≤ 300 → Byt (col b) → ∃ k e' b' s, iter step fuel (mk (d : Int) e b rows) = some (mk k e' b' (rows ++ s)) ∧ Byt (col b') ∧ b'.length ≤ b.length ∧ s.length ≤ d ∧ (e' = 0 → e = 0 ∧ s.length = d ∧ (∀ r ∈ s, V r) ∧ col b = s.flatMap f ++ col b') := by
  intro d
  induction d with
  | zero =>
    intro e b rows fuel hd hf hl hB
    obtain ⟨fuel, rfl⟩ : ∃ j, fuel = j + 1 := ⟨fuel - 1, by omega⟩
    exact ⟨0, e, b, [], by rw [List.append_nil]; exact iter_inr (h0 e b rows), hB, Nat.le_refl _, Nat.le_refl _, fun h => ⟨h, rfl, fun r hr => (by cases hr), rfl⟩⟩
  | succ d ih =>
    intro e b rows fuel hd hf hl hB
    obtain ⟨fuel, rfl⟩ : ∃ j, fuel = j + 1 := ⟨fuel - 1, by omega⟩
    by_cases he : e = 0
    · subst he
      obtain ⟨e1, b1, r, g1, g2, g3, g4⟩ := h2 d b rows (by omega) (by omega) hB
      obtain ⟨k, e', b', s, k1, k2, k3, k4, k5⟩ := ih e1 b1 (rows ++ [r]) fuel (by omega) (by omega) (by simp only [List.length_append, List.length_cons, List.length_nil]; omega) g2
      refine ⟨k, e', b', r :: s, by rw [iter_inl g1, k1, List.append_assoc]; rfl, k2, by omega, by simp only [List.length_cons]; omega, fun h => ?_⟩
      obtain ⟨m1, m2, m3, m4⟩ := k5 h
      obtain ⟨m5, m6⟩ := g4 m1
      refine ⟨rfl, by simp only [List.length_cons]; omega, fun x hx => ?_, by rw [m6, m4, List.flatMap_cons, List.append_assoc]⟩
      rcases List.mem_cons.1 hx with rfl | hx
      · exact m5
      · exact m3 x hx
    · exact ⟨_, e, b, [], by rw [List.append_nil]; exact iter_inr (h1 d e b rows he (by omega)), hB, Nat.le_refl _, by simp, fun h => absurd h he⟩
theorem f_loop {S : Type} {step : S → Option (S ⊕ S)} (mk : Int → Int → List (List Ct) → List (List Ct) → S) (f : List Ct → List Int) (V : List Ct → Prop)
    (h0 : ∀ e b rows, step (mk 0 e b rows) = some (.inr (mk 0 e b rows)))
    (h3 : ∀ (d : Nat) b rows r t, d < 256 → rows.length + d ≤ 300 → Byt (col b) → V r → col b = f r ++ t → ∃ b', step (mk ((d + 1 : Nat) : Int) 0 b rows) = some (.inl (mk (d : Int) 0 b' (rows ++ [r]))) ∧ Byt (col b') ∧ col b' = t) :
    ∀ (s : List (List Ct)) b rows t fuel, s.length < 256 → s.length < fuel → rows.length + s.length ≤ 300 → Byt (col b) → (∀ r ∈ s, V r) → col b = s.flatMap f ++ t → ∃ b', iter step fuel (mk (s.length : Int) 0 b rows) = some (mk 0 0 b' (rows ++ s)) ∧ Byt (col b') ∧ col b' = t := by
  intro s
  induction s with
  | nil =>
    intro b rows t fuel hd hf hl hB hV hc
    obtain ⟨fuel, rfl⟩ : ∃ j, fuel = j + 1 := ⟨fuel - 1, by omega⟩
    exact ⟨b, by rw [List.append_nil]; exact iter_inr (h0 0 b rows), hB, hc⟩
  | cons r s ih =>
    intro b rows t fuel hd hf hl hB hV hc
    simp only [List.length_cons] at hd hf hl
    obtain ⟨fuel, rfl⟩ : ∃ j, fuel = j + 1 := ⟨fuel - 1, by omega⟩
    rw [List.flatMap_cons, List.append_assoc] at hc
    obtain ⟨b1, g1, g2, g3⟩ := h3 s.length b rows r _ (by omega) (by omega) hB (hV r List.mem_cons_self) hc
    obtain ⟨b', k1, k2, k3⟩ := ih b1 (rows ++ [r]) t fuel (by omega) (by omega) (by simp only [List.length_append, List.length_cons, List.length_nil]; omega) g2 (fun x hx => hV x (List.mem_cons_of_mem _ hx)) g3
    exact ⟨b', by rw [List.length_cons, iter_inl g1, k1, List.append_assoc]; rfl, k2, k3⟩
end Go.Proofs.Ytcpbiijegbbafaa
