/- The stable sort of 20 to 39 keys: the same rows, sorted. No condition. -/
import Derived.Test.YtmpaelkjooahoaaSymK
import Derived.Test.YtmpaelkjooahoaaEngOrbit4
set_option linter.unusedVariables false
set_option linter.unusedSimpArgs false
namespace Go.Proofs.Ytmpaelkjooahoaa
open Go.RowKit

/-- Sorted but for one, which is ahead of all behind it. -/
structure But (a i j : Nat) (l : List (List Ct)) : Prop where
  rest : ∀ p q, a ≤ p → p < q → q ≤ i → p ≠ j → q ≠ j → (kA l p).1 ≤ (kA l q).1
  one : ∀ q, j < q → q ≤ i → (kA l j).1 ≤ (kA l q).1
theorem sam_swap {a b p q : Nat} {l l' : List (List Ct)} (h1 : a ≤ p) (h2 : p < b) (h3 : a ≤ q) (h4 : q < b) (hl : l'.length = l.length) (hf : ∀ k, kA l' k = kA l (if k = q then p else if k = p then q else k)) : Sam a b l l' := by
  have e1 : ∀ k, k < a ∨ b ≤ k → (if k = q then p else if k = p then q else k) = k := fun k hk => by
    repeat' split
    all_goals omega
  have e2 : ∀ k, a ≤ k → k < b → a ≤ (if k = q then p else if k = p then q else k) ∧ (if k = q then p else if k = p then q else k) < b := fun k k1 k2 => by
    repeat' split
    all_goals omega
  have e3 : ∀ k, (if (if k = q then p else if k = p then q else k) = q then p else if (if k = q then p else if k = p then q else k) = p then q else (if k = q then p else if k = p then q else k)) = k := fun k => by
    repeat' split
    all_goals omega
  exact Sam.of_map (fun k => if k = q then p else if k = p then q else k) (fun k => if k = q then p else if k = p then q else k) hl hf e1 e2 fun k k1 k2 => ⟨(e2 k k1 k2).1, (e2 k k1 k2).2, e3 k⟩
theorem ins2_any {l : List (List Ct)} {a b i : Nat} (ha : a ≤ i) (hi : i < b) (hb : b ≤ l.length) (hl : l.length ≤ 1048576) (s : Srt a i l) : ∃ r, ins_L2_p a b i l = true ∧ (ins_L2_v a b i l).2 = r ∧ Sam a b l r ∧ Srt a (i + 1) r := by
  obtain ⟨⟨c, r⟩, g1, g2, g3⟩ := iter_inv (step := ins_L2_step a) (fun v => ∃ j : Nat, v.1 = (j : Int) ∧ a ≤ j ∧ j ≤ i ∧ Sam a b l v.2 ∧ But a i j v.2) (fun r => Sam a b l r.2 ∧ Srt a (i + 1) r.2) (fun v => v.1.toNat) (fun v => by
      rintro ⟨j, hv, j1, j2, hS, hB⟩
      obtain ⟨vi, vl⟩ := v
      simp only at hv hS hB
      subst hv
      have hvl := hS.len
      by_cases q : (j : Int) > (a : Int)
      · have w : IntKind.i64.wrap ((j : Int) - 1) = ((j - 1 : Nat) : Int) := by rw [wrap_in (by omega) (by omega)]; omega
        have q1 : (0 : Int) ≤ ((j - 1 : Nat) : Int) ∧ ((j - 1 : Nat) : Int) < (vl.length : Int) := by omega
        have q2 : (0 : Int) ≤ (j : Int) ∧ (j : Int) < (vl.length : Int) := by omega
        by_cases c : (rd vl j 0).int < (rd vl (j - 1) 0).int
        · left
          have hk := kA_swap (l := vl) (p := j) (q := j - 1) (by omega) (by omega)
          have hlen : ((vl.set j [.i (rd vl (j - 1) 0).int, .i (rd vl (j - 1) 1).int, .i (rd vl (j - 1) 2).int, .i (rd vl (j - 1) 3).int]).set (j - 1) [.i (rd vl j 0).int, .i (rd vl j 1).int, .i (rd vl j 2).int, .i (rd vl j 3).int]).length = vl.length := by simp
          have hst : ins_L2_step a ((j : Int), vl) = some (.inl (((j - 1 : Nat) : Int), (vl.set j [.i (rd vl (j - 1) 0).int, .i (rd vl (j - 1) 1).int, .i (rd vl (j - 1) 2).int, .i (rd vl (j - 1) 3).int]).set (j - 1) [.i (rd vl j 0).int, .i (rd vl j 1).int, .i (rd vl j 2).int, .i (rd vl j 3).int])) := by
            simp only [ins_L2_step, cond_dec q, w, cond_dec q1, cond_dec q2, Int.toNat_natCast, cond_dec c, List.length_set, upd4]
          generalize (vl.set j [.i (rd vl (j - 1) 0).int, .i (rd vl (j - 1) 1).int, .i (rd vl (j - 1) 2).int, .i (rd vl (j - 1) 3).int]).set (j - 1) [.i (rd vl j 0).int, .i (rd vl j 1).int, .i (rd vl j 2).int, .i (rd vl j 3).int] = u at hk hlen hst
          refine ⟨_, hst, ⟨j - 1, rfl, by omega, by omega, hS.trans (sam_swap (by omega) (by omega) (by omega) (by omega) hlen hk), ⟨fun p q' e1 e2 e3 e4 e5 => ?_, fun q' e1 e2 => ?_⟩⟩, by simp only [Int.toNat_natCast]; omega⟩
          · rw [hk, hk, if_neg e4, if_neg e5]
            by_cases f1 : p = j
            · rw [if_pos f1, if_neg (by omega)]; exact hB.rest (j - 1) q' (by omega) (by omega) e3 (by omega) (by omega)
            · rw [if_neg f1]
              by_cases f2 : q' = j
              · rw [if_pos f2]; exact hB.rest p (j - 1) e1 (by omega) (by omega) f1 (by omega)
              · rw [if_neg f2]; exact hB.rest p q' e1 e2 e3 f1 f2
          · rw [hk, hk, if_pos rfl, if_neg (by omega)]
            by_cases f : q' = j
            · rw [if_pos f]; exact Int.le_of_lt c
            · rw [if_neg f]; exact hB.one q' (by omega) e2
        · right
          refine ⟨((j : Int), vl), ?_, hS, fun p q' e1 e2 e3 => ?_⟩
          · by_cases c2 : (rd vl j 0).int > (rd vl (j - 1) 0).int
            · simp only [ins_L2_step, cond_dec q, w, cond_dec q1, cond_dec q2, Int.toNat_natCast, cond_not c, cond_dec c2]
            · simp only [ins_L2_step, cond_dec q, w, cond_dec q1, cond_dec q2, Int.toNat_natCast, cond_not c, cond_not c2]
          · have hc : (kA vl (j - 1)).1 ≤ (kA vl j).1 := Int.not_lt.1 c
            by_cases f1 : p = j
            · subst f1; exact hB.one q' e2 (by omega)
            · by_cases f2 : q' = j
              · subst f2
                by_cases f3 : p = q' - 1
                · subst f3; exact hc
                · exact Int.le_trans (hB.rest p (q' - 1) e1 (by omega) (by omega) f1 (by omega)) hc
              · exact hB.rest p q' e1 e2 (by omega) f1 f2
      · right
        obtain rfl : j = a := by omega
        refine ⟨((j : Int), vl), by simp only [ins_L2_step, cond_not q], hS, fun p q' e1 e2 e3 => ?_⟩
        by_cases f1 : p = j
        · subst f1; exact hB.one q' e2 (by omega)
        · exact hB.rest p q' e1 e2 (by omega) f1 (by omega)) (b + 1) ((i : Int), l) ⟨i, rfl, ha, Nat.le_refl _, Sam.refl _ _ _, ⟨fun p q e1 e2 e3 e4 e5 => s p q e1 e2 (by omega), fun q e1 e2 => by omega⟩⟩ (by simp only [Int.toNat_natCast]; omega)
  exact ⟨r, by unfold ins_L2_p; rw [Int.toNat_natCast, g1]; rfl, by unfold ins_L2_v loopRes; rw [Int.toNat_natCast, g1]; rfl, g2, g3⟩
theorem ins_any {l : List (List Ct)} {a b : Nat} (h : a < b) (hb : b ≤ l.length) (hl : l.length ≤ 1048576) : ∃ r, ins_res l a b = some r ∧ ins_v l a b = r ∧ Sam a b l r ∧ Srt a b r := by
  have w0 : IntKind.i64.wrap ((a : Int) + 1) = ((a + 1 : Nat) : Int) := by rw [wrap_in (by omega) (by omega)]; omega
  obtain ⟨⟨c, r⟩, g1, g2, g3⟩ := iter_inv (step := ins_L0_step a b) (fun v => ∃ i : Nat, v.1 = (i : Int) ∧ a < i ∧ i ≤ b ∧ Sam a b l v.2 ∧ Srt a i v.2) (fun r => Sam a b l r.2 ∧ Srt a b r.2) (fun v => b - v.1.toNat) (fun v => by
      rintro ⟨i, hv, i1, i2, hS, hB⟩
      obtain ⟨vi, vl⟩ := v
      simp only at hv hS hB
      subst hv
      have hvl := hS.len
      by_cases q : (i : Int) < (b : Int)
      · left
        obtain ⟨u, k1, k2, k3, k4⟩ := ins2_any (l := vl) (a := a) (b := b) (i := i) (by omega) (by omega) (by omega) (by omega) hB
        refine ⟨(((i + 1 : Nat) : Int), u), by simp only [ins_L0_step, cond_dec q, k1, k2, cond_true, wrap_succ (k := i) (by omega)], ⟨i + 1, rfl, by omega, by omega, hS.trans k3, k4⟩, by simp only [Int.toNat_natCast]; omega⟩
      · right
        obtain rfl : i = b := by omega
        exact ⟨((i : Int), vl), by simp only [ins_L0_step, cond_not q], hS, hB⟩) (b + 1) (((a + 1 : Nat) : Int), l) ⟨a + 1, rfl, by omega, by omega, Sam.refl _ _ _, fun p q e1 e2 e3 => by omega⟩ (by simp only [Int.toNat_natCast]; omega)
  have e : ins_res l a b = some r := by unfold ins_res ins_L0_p ins_L0_v loopRes; rw [w0, Int.toNat_natCast, g1]; rfl
  exact ⟨r, e, by unfold ins_v; rw [e]; rfl, g2, g3⟩
theorem ins_none {l : List (List Ct)} {a b : Nat} (h : b ≤ a) (hl : a ≤ 1048576) : ins_res l a b = some l ∧ ins_v l a b = l := by
  have w0 : IntKind.i64.wrap ((a : Int) + 1) = ((a + 1 : Nat) : Int) := by rw [wrap_in (by omega) (by omega)]; omega
  have q : ¬ (((a + 1 : Nat) : Int) < (b : Int)) := by omega
  have g : iter (ins_L0_step a b) (b + 1) (((a + 1 : Nat) : Int), l) = some (((a + 1 : Nat) : Int), l) := iter_inr (by simp only [ins_L0_step, cond_not q])
  have e : ins_res l a b = some l := by unfold ins_res ins_L0_p ins_L0_v loopRes; rw [w0, Int.toNat_natCast, g]; rfl
  exact ⟨e, by unfold ins_v; rw [e]; rfl⟩
theorem stb_many {l : List (List Ct)} (h1 : 20 ≤ l.length) (h2 : l.length < 40) : ∃ r, stb_res l (l.length : Int) = some r ∧ stb_v l (l.length : Int) = r ∧ Sam 0 l.length l r ∧ Srt 0 l.length r := by
  obtain ⟨l1, a1, a2, a3, a4⟩ := ins_any (l := l) (a := 0) (b := 20) (by omega) h1 (by omega)
  have e1 : l1.length = l.length := a3.len
  obtain ⟨l2, b1, b2, b3, b4⟩ : ∃ r, ins_res l1 (20 : Nat) (l.length : Nat) = some r ∧ ins_v l1 (20 : Nat) (l.length : Nat) = r ∧ Sam 20 l.length l1 r ∧ Srt 20 l.length r := by
    by_cases c : l.length = 20
    · obtain ⟨g1, g2⟩ := ins_none (l := l1) (a := 20) (b := l.length) (by omega) (by omega)
      exact ⟨l1, g1, g2, Sam.refl _ _ _, fun p q e1 e2 e3 => by omega⟩
    · exact ins_any (l := l1) (a := 20) (b := l.length) (by omega) (by omega) (by omega)
  have e2 : l2.length = l.length := b3.len.trans e1
  have s1 : Srt 0 20 l2 := fun p q p1 p2 p3 => by rw [b3.out p (.inl (by omega)), b3.out q (.inl p3)]; exact a4 p q p1 p2 p3
  have m2 : Sam 0 l.length l l2 := (a3.wide (Nat.le_refl _) h1).trans (b3.wide (Nat.zero_le _) (Nat.le_refl _))
  have q1 : ((20 : Int) ≤ (l.length : Int)) := by omega
  have q2 : ¬ ((40 : Int) ≤ (l.length : Int)) := by omega
  have w40 : IntKind.i64.wrap ((20 : Int) + 20) = 40 := by decide
  have a1' : ins_res l 0 20 = some l1 := a1
  have a2' : ins_v l 0 20 = l1 := a2
  have b1' : ins_res l1 20 (l.length : Int) = some l2 := b1
  have b2' : ins_v l1 20 (l.length : Int) = l2 := b2
  have i1 : iter (stb_L0_step (l.length : Int)) ((l.length : Int).toNat + 1) (0, 20, l) = some (20, 40, l1) := by
    rw [Int.toNat_natCast]
    obtain ⟨f, hf⟩ : ∃ f, l.length = f + 1 := ⟨l.length - 1, by omega⟩
    have st1 : stb_L0_step (l.length : Int) (0, 20, l) = some (.inl (20, 40, l1)) := by simp only [stb_L0_step, cond_dec q1, a1', a2', Option.isSome_some, cond_true, w40]
    have st2 : stb_L0_step (l.length : Int) (20, 40, l1) = some (.inr (20, 40, l1)) := by simp only [stb_L0_step, cond_not q2]
    rw [iter_inl st1]
    exact (by rw [hf]; exact iter_inr (by rw [← hf]; exact st2))
  have p1 : stb_L0_p l (l.length : Int) = true := by unfold stb_L0_p; rw [i1]; rfl
  have p2 : stb_L0_v l (l.length : Int) = (20, 40, l1) := by unfold stb_L0_v loopRes; rw [i1]; rfl
  by_cases c : l.length = 20
  · have q3 : ¬ ((20 : Int) < (l.length : Int)) := by omega
    have i2 : iter (stb_L2_step (l.length : Int)) ((l.length : Int).toNat + 1) (20, 20, 40, l2) = some (20, 20, 40, l2) := iter_inr (by simp only [stb_L2_step, cond_not q3])
    have e : stb_res l (l.length : Int) = some l2 := by
      unfold stb_res
      rw [p1, p2, cond_true, b1']
      unfold stb_L2_p stb_L2_v loopRes
      rw [p2, b2', i2]
      rfl
    exact ⟨l2, e, by unfold stb_v; rw [e]; rfl, m2, by rw [c]; exact s1⟩
  · have q3 : (20 : Int) < (l.length : Int) := by omega
    have q4 : ¬ ((40 : Int) < (l.length : Int)) := by omega
    obtain ⟨g1, g2, g3⟩ := smm_ok (l := l2) (a := 0) (m := 20) (b := l.length) (by omega) (by omega) (by omega) (by omega) s1 b4
    have g1' : smm_p l2 0 20 (l.length : Int) = true := g1
    have i4 : iter (stb_L4_step (l.length : Int) 20) ((l.length : Int).toNat + 1) (0, 40, l2) = some (0, 40, l2) := iter_inr (by simp only [stb_L4_step, cond_not q2])
    have w2 : IntKind.i64.wrap ((2 : Int) * 20) = 40 := by decide
    have w3 : IntKind.i64.wrap ((20 : Int) * 2) = 40 := by decide
    have w4 : IntKind.i64.wrap ((0 : Int) + 20) = 20 := by decide
    have p4 : stb_L4_p (l.length : Int) 20 l2 = true := by unfold stb_L4_p; rw [w2, i4]; rfl
    have v4 : stb_L4_v (l.length : Int) 20 l2 = (0, 40, l2) := by unfold stb_L4_v loopRes; rw [w2, i4]; rfl
    have st1 : stb_L2_step (l.length : Int) (20, 20, 40, l2) = some (.inl (40, 0, 40, smm_v l2 0 20 (l.length : Int))) := by
      simp only [stb_L2_step, cond_dec q3, p4, v4, cond_true, w4, g1', w3]
    have st2 : stb_L2_step (l.length : Int) (40, 0, 40, smm_v l2 0 20 (l.length : Int)) = some (.inr (40, 0, 40, smm_v l2 0 20 (l.length : Int))) := by
      simp only [stb_L2_step, cond_not q4]
    have i2 : iter (stb_L2_step (l.length : Int)) ((l.length : Int).toNat + 1) (20, 20, 40, l2) = some (40, 0, 40, smm_v l2 0 20 (l.length : Int)) := by
      rw [Int.toNat_natCast, iter_inl st1]
      obtain ⟨f, hf⟩ : ∃ f, l.length = f + 1 := ⟨l.length - 1, by omega⟩
      exact (by rw [hf]; exact iter_inr (by rw [← hf]; exact st2))
    have e : stb_res l (l.length : Int) = some (smm_v l2 0 20 (l.length : Int)) := by
      unfold stb_res
      rw [p1, p2, cond_true, b1']
      unfold stb_L2_p stb_L2_v loopRes
      rw [p2, b2', i2]
      rfl
    exact ⟨_, e, by unfold stb_v; rw [e]; rfl, m2.trans g2, g3⟩
end Go.Proofs.Ytmpaelkjooahoaa
