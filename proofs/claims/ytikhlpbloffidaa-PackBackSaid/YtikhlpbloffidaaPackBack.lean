/- The law PackBack: it answers true for all bytes. No condition. -/
import Derived.Test.YtikhlpbloffidaaPackPresses
import Derived.Test.YtikhlpbloffidaaPackR
import Derived.Test.YtikhlpbloffidaaPackBackT
set_option linter.unusedVariables false
set_option linter.unusedSimpArgs false
namespace Go.Proofs.Ytikhlpbloffidaa
open Go.RowKit

/-- The pieces of a text. -/
inductive Pk : List Int → List Int → Prop
  | nil : Pk [] []
  | run (m : Nat) (c : Int) (s b : List Int) : 3 ≤ m → m ≤ 129 → Pk s b → Pk (List.replicate m c ++ s) (((m : Int) + 126) :: c :: b)
  | plain (p s b : List Int) : 1 ≤ p.length → p.length ≤ 128 → Pk s b → Pk (p ++ s) (((p.length : Int) - 1) :: (p ++ b))
theorem alkC_take {c : Int} : ∀ (t : List Int) (m : Nat), m ≤ alkC c t → t.take m = List.replicate m c
  | t, 0 => fun _ => rfl
  | [], m + 1 => fun h => by simp [alkC] at h
  | x :: t, m + 1 => fun h => by
    unfold alkC at h
    split at h
    · rename_i hx
      rw [List.take_succ_cons, List.replicate_succ, alkC_take (c := c) t m (by omega), hx]
    · omega
theorem prs_pk : ∀ (f : Nat) (s : List Int), s.length ≤ f → Pk s (prs f s) := by
  intro f
  induction f with
  | zero => intro s h; obtain rfl : s = [] := List.length_eq_zero_iff.1 (by omega); exact .nil
  | succ f ih =>
    intro s h
    cases s with
    | nil => rw [prs_nil]; exact .nil
    | cons c t =>
      have hal := alk_le (c :: t)
      by_cases h3 : 3 ≤ alk (c :: t)
      · rw [prs_run rfl h3]
        generalize hm : min (alk (c :: t)) 129 = m at *
        have hk := ih ((c :: t).drop m) (by simp at h ⊢; omega)
        have e : (c :: t) = List.replicate m c ++ (c :: t).drop m := by
          obtain ⟨k, rfl⟩ : ∃ k, m = k + 1 := ⟨m - 1, by omega⟩
          have : (c :: t).take (k + 1) = List.replicate (k + 1) c := by
            rw [List.take_succ_cons, List.replicate_succ, alkC_take (c := c) t k (by simp [alk] at hm; omega)]
          rw [← this, List.take_append_drop]
        have := Pk.run m c _ _ (by omega) (by omega) hk
        rw [← e] at this
        exact this
      · rw [prs_plain rfl h3]
        have hp := pln_le (c := c) (t := t)
        have h1 : 1 ≤ pln (c :: t) := by unfold pln; omega
        generalize pln (c :: t) = k at *
        have hk := ih ((c :: t).drop k) (by simp at h ⊢; omega)
        have hl : ((c :: t).take k).length = k := by simp; omega
        have := Pk.plain ((c :: t).take k) _ _ (by omega) (by omega) hk
        rw [List.take_append_drop, hl] at this
        exact this
theorem Pk.byt {s b : List Int} (h : Pk s b) : Byt s → Byt b := by
  induction h with
  | nil => exact fun h => h
  | run m c s b h1 h2 _ ih =>
    intro hs y hy
    rcases List.mem_cons.1 hy with rfl | hy
    · omega
    rcases List.mem_cons.1 hy with rfl | hy
    · exact hs _ (List.mem_append_left _ (List.mem_replicate.2 ⟨by omega, rfl⟩))
    · exact ih (fun z hz => hs z (List.mem_append_right _ hz)) y hy
  | plain p s b h1 h2 _ ih =>
    intro hs y hy
    rcases List.mem_cons.1 hy with rfl | hy
    · omega
    rcases List.mem_append.1 hy with hy | hy
    · exact hs y (List.mem_append_left _ hy)
    · exact ih (fun z hz => hs z (List.mem_append_right _ hz)) y hy
theorem Pk.pos {s b : List Int} (h : Pk s b) (hs : s ≠ []) : b ≠ [] := by cases h <;> first | exact absurd rfl hs | simp
theorem Pk.nilB {s b : List Int} (h : Pk s b) (hs : s = []) : b = [] := by
  cases h with
  | nil => rfl
  | run m c s b h1 h2 h => obtain ⟨k, rfl⟩ : ∃ k, m = k + 1 := ⟨m - 1, by omega⟩; simp at hs
  | plain p s b h1 h2 h => obtain ⟨h3, h4⟩ := List.append_eq_nil_iff.1 hs; rw [h3] at h1; simp at h1
theorem sprd_runStep {most : Int} {f m : Nat} {out : List Int} {c : Int} {t : List Int} (h1 : 3 ≤ m) : sprd most (f + 1) out (((m : Int) + 126) :: c :: t) = if (m : Int) > most - out.length then .inr 8 else sprd most f (out ++ List.replicate m c) t := by
  rw [sprd, if_pos (by omega), if_neg (by simp)]
  rw [show (m : Int) + 126 - 126 = m by omega, Int.toNat_natCast]
  rfl
theorem sprd_plainStep {most : Int} {f : Nat} {out p t : List Int} (h1 : 1 ≤ p.length) (h2 : p.length ≤ 128) : sprd most (f + 1) out (((p.length : Int) - 1) :: (p ++ t)) = if (p.length : Int) > most - out.length then .inr 8 else sprd most f (out ++ p) t := by
  rw [sprd, if_neg (by omega), if_neg (by simp; omega)]
  rw [show (p.length : Int) - 1 + 1 = p.length by omega, Int.toNat_natCast]
  simp
theorem Pk.all {s b : List Int} (h : Pk s b) {most : Int} : ∀ (f : Nat) (out : List Int), b.length ≤ f → (out.length : Int) + s.length ≤ most → sprd most f out b = .inl (out ++ s) := by
  induction h with
  | nil => intro f out _ _; rw [sprd_nil, List.append_nil]
  | run m c s b h1 h2 _ ih =>
    intro f out hf hm
    obtain ⟨f, rfl⟩ : ∃ k, f = k + 1 := ⟨f - 1, by simp at hf; omega⟩
    simp only [List.length_append, List.length_replicate, List.length_cons] at hf hm
    rw [sprd_runStep h1, if_neg (by omega), ih f _ (by omega) (by simp; omega), List.append_assoc]
  | plain p s b h1 h2 _ ih =>
    intro f out hf hm
    obtain ⟨f, rfl⟩ : ∃ k, f = k + 1 := ⟨f - 1, by simp at hf; omega⟩
    simp only [List.length_append, List.length_cons] at hf hm
    rw [sprd_plainStep h1 h2, if_neg (by omega), ih f _ (by omega) (by simp; omega), List.append_assoc]
theorem Pk.less {s b : List Int} (h : Pk s b) {most : Int} : ∀ (f : Nat) (out : List Int), b.length ≤ f → (out.length : Int) ≤ most → most < (out.length : Int) + s.length → sprd most f out b = .inr 8 := by
  induction h with
  | nil => intro f out _ h1 h2; simp at h2; omega
  | run m c s b h1 h2 _ ih =>
    intro f out hf hm hn
    obtain ⟨f, rfl⟩ : ∃ k, f = k + 1 := ⟨f - 1, by simp at hf; omega⟩
    simp only [List.length_append, List.length_replicate, List.length_cons] at hf hn
    rw [sprd_runStep h1]
    by_cases hb : (m : Int) > most - out.length
    · rw [if_pos hb]
    · rw [if_neg hb, ih f _ (by omega) (by simp; omega) (by simp; omega)]
  | plain p s b h1 h2 _ ih =>
    intro f out hf hm hn
    obtain ⟨f, rfl⟩ : ∃ k, f = k + 1 := ⟨f - 1, by simp at hf; omega⟩
    simp only [List.length_append, List.length_cons] at hf hn
    rw [sprd_plainStep h1 h2]
    by_cases hb : (p.length : Int) > most - out.length
    · rw [if_pos hb]
    · rw [if_neg hb, ih f _ (by omega) (by simp; omega) (by simp; omega)]
theorem Pk.short {s b : List Int} (h : Pk s b) {most : Int} : ∀ (f : Nat) (out : List Int), b.length ≤ f + 1 → s ≠ [] → (out.length : Int) + s.length ≤ most → sprd most f out b.dropLast = .inr 9 := by
  induction h with
  | nil => intro f out _ h1; exact absurd rfl h1
  | run m c s b h1 h2 hb ih =>
    intro f out hf hs hm
    obtain ⟨f, rfl⟩ : ∃ k, f = k + 1 := ⟨f - 1, by simp at hf; omega⟩
    simp only [List.length_append, List.length_replicate, List.length_cons] at hf hm
    by_cases hz : s = []
    · obtain rfl := hb.nilB hz
      show sprd most (f + 1) out [(m : Int) + 126] = _
      rw [sprd, if_pos (by omega), if_pos (by simp)]
    · have e : (((m : Int) + 126) :: c :: b).dropLast = ((m : Int) + 126) :: c :: b.dropLast := by
        rw [List.dropLast_cons_of_ne_nil (by simp), List.dropLast_cons_of_ne_nil (hb.pos hz)]
      rw [e, sprd_runStep h1, if_neg (by omega), ih f _ (by omega) hz (by simp; omega)]
  | plain p s b h1 h2 hb ih =>
    intro f out hf hs hm
    simp only [List.length_append, List.length_cons] at hf hm
    obtain ⟨f, rfl⟩ : ∃ k, f = k + 1 := ⟨f - 1, by omega⟩
    by_cases hz : s = []
    · obtain rfl := hb.nilB hz
      rw [List.append_nil, List.dropLast_cons_of_ne_nil (by intro h; rw [h] at h1; simp at h1)]
      rw [sprd, if_neg (by omega), if_pos (by simp; omega)]
    · have e : (((p.length : Int) - 1) :: (p ++ b)).dropLast = ((p.length : Int) - 1) :: (p ++ b.dropLast) := by
        rw [List.dropLast_cons_of_ne_nil (by simp [hb.pos hz]), List.dropLast_append_of_ne_nil (hb.pos hz)]
      rw [e, sprd_plainStep h1 h2, if_neg (by omega), ih f _ (by omega) hz (by simp; omega)]

theorem lpb_true (x0 : List (List Ct)) (x1 : Int) (h0 : ∀ i, i < x0.length → ∀ (j : Nat) s, [Sh.int IntKind.u8][j]? = some s → CtWf 7 s (rd x0 i j)) (h1 : (Lit.int .u8 x1).wf = true) : lpb_res x0 x1 = some true := by
  unfold lpb_res
  by_cases hl' : (x0.length : Int) > 20000
  · rw [cond_dec hl']
  have hl : x0.length ≤ 20000 := by omega
  have hB := byt_of h0
  have hx : 0 ≤ x1 ∧ x1 < 256 := by
    simp [Lit.wf, IntKind.min, IntKind.max, IntKind.bits, IntKind.signed] at h1; omega
  obtain ⟨p1, p2, p3⟩ := pprs_is hl
  have hP := prs_pk x0.length (col x0) (by rw [col_length]; omega)
  rw [← p2] at hP
  have hlb : (pprs_v x0).length = (col (pprs_v x0)).length := col_length.symm
  have hls : (col x0).length = x0.length := col_length
  generalize hb : pprs_v x0 = b at *
  obtain ⟨a1, a2, a3⟩ := psp_is (x0 := b) (x1 := (x0.length : Int)) (by omega) (by omega) (by omega) (hP.byt hB)
  rw [hP.all b.length [] (by omega) (by simp [hls])] at a2 a3
  have hs : ((strOf (psp_v b (x0.length : Int)).2).toList == (strOf x0).toList) = true := by
    have : col (psp_v b (x0.length : Int)).2 = col x0 := by rw [a3]; rfl
    rw [strOf_col this]; simp
  have a2' : (psp_v b (x0.length : Int)).1 = 0 := a2
  rw [cond_not hl', p1, a1, a2', hs]
  by_cases hz : x0.length = 0
  · have e1 : ((x0.length : Int) == 0) = true := by rw [hz]; rfl
    rw [e1]; rfl
  have e1 : ((x0.length : Int) == 0) = false := by simpa using hz
  have hne : col x0 ≠ [] := fun h => hz (by rw [← hls, h]; rfl)
  have hbp : 0 < b.length := by
    have := hP.pos hne
    rw [hlb]
    exact List.length_pos_iff.2 this
  have w0 : IntKind.i64.wrap x1 = x1 := wrap_in (by omega) (by omega)
  have w1 : IntKind.i64.wrap ((x0.length : Int) - 1) = (x0.length : Int) - 1 := wrap_in (by omega) (by omega)
  have tm : x1.tmod (x0.length : Int) = x1 % (x0.length : Int) := Int.tmod_eq_emod_of_nonneg hx.1
  have r0 := Int.emod_nonneg x1 (b := (x0.length : Int)) (by omega)
  have r1 := Int.emod_lt_of_pos x1 (b := (x0.length : Int)) (by omega)
  rw [w0, tm]
  generalize x1 % (x0.length : Int) = r at *
  have w2 : IntKind.i64.wrap ((x0.length : Int) - 1 - r) = (x0.length : Int) - 1 - r := wrap_in (by omega) (by omega)
  have w3 : IntKind.i64.wrap ((b.length : Int) - 1) = ((b.length - 1 : Nat) : Int) := by rw [wrap_in (by omega) (by omega)]; omega
  obtain ⟨b1, b2, b3⟩ := psp_is (x0 := b) (x1 := (x0.length : Int) - 1 - r) (by omega) (by omega) (by omega) (hP.byt hB)
  rw [hP.less b.length [] (by omega) (by simp; omega) (by simp; omega)] at b2
  have hc : col (partOf b 0 ((b.length - 1 : Nat) : Int)) = (col b).dropLast := by
    rw [col_part, List.dropLast_eq_take, ← hlb]; rfl
  have hcl : (partOf b 0 ((b.length - 1 : Nat) : Int)).length = b.length - 1 := by simp [partOf]
  obtain ⟨c1, c2, c3⟩ := psp_is (x0 := partOf b 0 ((b.length - 1 : Nat) : Int)) (x1 := (x0.length : Int)) (by omega) (by omega) (by omega) (by rw [hc]; exact fun y hy => (hP.byt hB) y (List.dropLast_subset _ hy))
  rw [hc, hP.short _ [] (by omega) hne (by simp [hls])] at c2
  have b2' : (psp_v b ((x0.length : Int) - 1 - r)).1 = 8 := b2
  have c2' : (psp_v (partOf b 0 ((b.length - 1 : Nat) : Int)) (x0.length : Int)).1 = 9 := c2
  have q1 : (x0.length : Int) ≠ 0 := by omega
  have q2 : (0 : Int) ≤ 0 ∧ (0 : Int) ≤ ((b.length - 1 : Nat) : Int) ∧ ((b.length - 1 : Nat) : Int) ≤ (b.length : Int) := by omega
  rw [e1, w1, w2, w3, b1, c1, b2', c2', cond_dec q1, cond_dec q2]
  rfl
theorem lpb_call (x0 : List (List Ct)) (x1 : Int) (h0 : ∀ i, i < x0.length → ∀ (j : Nat) s, [Sh.int IntKind.u8][j]? = some s → CtWf 7 s (rd x0 i j)) (h1 : (Lit.int .u8 x1).wf = true) : CallOk Try.prog 5 [.sv (.one (.ext 0)), .sv (.one (.val false (.int .u8 x1)))] [(0, .grid [.int .u8] x0)] 1 (lpb_O true) := lpb_tree (lpb_true x0 x1 h0 h1)
end Go.Proofs.Ytikhlpbloffidaa
