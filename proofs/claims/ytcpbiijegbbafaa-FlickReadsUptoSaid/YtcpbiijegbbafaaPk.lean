/- Pressed bytes as pieces: what was pressed is spread as it was. No condition. -/
import Derived.Test.YtcpbiijegbbafaaPackS
set_option linter.unusedVariables false
set_option linter.unusedSimpArgs false
namespace Go.Proofs.Ytcpbiijegbbafaa
open Go.RowKit

theorem plnF_stop : ∀ (m : Nat) (s : List Int), plnF m s < m → s.drop (plnF m s) = [] ∨ 3 ≤ alk (s.drop (plnF m s))
  | 0, s => fun h => by omega
  | m + 1, [] => fun h => .inl rfl
  | m + 1, c :: t => fun h => by
    unfold plnF at h ⊢
    by_cases hk : alk (c :: t) < 3
    · rw [if_pos hk] at h ⊢
      exact plnF_stop m t (by omega)
    · rw [if_neg hk]
      exact .inr (by simpa using hk)
theorem prs_len : ∀ (f : Nat) (s : List Int), s.length ≤ f → (prs f s).length ≤ s.length + (s.length + 127) / 128 ∧ (3 ≤ alk s → (prs f s).length + 1 ≤ s.length + (s.length + 127) / 128) := by
  intro f
  induction f with
  | zero => intro s h; obtain rfl : s = [] := List.length_eq_zero_iff.1 (by omega); exact ⟨by simp [prs], fun h => by simp [alk] at h⟩
  | succ f ih =>
    intro s h
    cases s with
    | nil => exact ⟨by simp [prs], fun h => by simp [alk] at h⟩
    | cons c t =>
      have hal := alk_le (c :: t)
      simp only [List.length_cons] at h hal ⊢
      by_cases h3 : 3 ≤ alk (c :: t)
      · rw [prs_run rfl h3]
        generalize hm : min (alk (c :: t)) 129 = m
        have hl : ((c :: t).drop m).length = t.length + 1 - m := by simp
        have := (ih ((c :: t).drop m) (by rw [hl]; omega)).1
        rw [hl] at this
        simp only [List.length_cons]
        omega
      · rw [prs_plain rfl h3]
        refine ⟨?_, fun h => absurd h h3⟩
        have hp := pln_le (c := c) (t := t)
        have h1 : 1 ≤ pln (c :: t) := by unfold pln; omega
        have hstop : pln (c :: t) < 128 → (c :: t).drop (pln (c :: t)) = [] ∨ 3 ≤ alk ((c :: t).drop (pln (c :: t))) := fun hlt => by
          simp only [pln, List.tail_cons, List.drop_succ_cons] at hlt ⊢
          exact plnF_stop 127 t (by omega)
        generalize pln (c :: t) = k at *
        have hl : ((c :: t).drop k).length = t.length + 1 - k := by simp
        have hq := ih ((c :: t).drop k) (by rw [hl]; omega)
        rw [hl] at hq
        simp only [List.length_cons, List.length_append, List.length_take]
        by_cases hk : k < 128
        · rcases hstop hk with h0 | h0
          · rw [h0, prs_nil]
            simp only [List.length_nil]; omega
          · have := hq.2 h0
            omega
        · have := hq.1
          omega
theorem prs_pos {f : Nat} {s : List Int} (h : s ≠ []) (hf : s.length ≤ f) : 0 < (prs f s).length := by
  cases s with
  | nil => exact absurd rfl h
  | cons c t =>
    obtain ⟨f, rfl⟩ : ∃ k, f = k + 1 := ⟨f - 1, by simp at hf; omega⟩
    rw [prs]
    split <;> simp
/-- The pieces of a text. -/
inductive Pk : List Int → List Int → Prop
  | nil : Pk [] []
  | run (m : Nat) (c : Int) (s b : List Int) : 3 ≤ m → m ≤ 129 → Pk s b → Pk (List.replicate m c ++ s) (((m : Int) + 126) :: c :: b)
  | plain (p s b : List Int) : 1 ≤ p.length → p.length ≤ 128 → Pk s b → Pk (p ++ s) (((p.length : Int) - 1) :: (p ++ b))
theorem alkC_take {c : Int} : ∀ (t : List Int) (m : Nat), m ≤ alkC c t → t.take m = List.replicate m c
  | t, 0 => fun _ => rfl
  | [], m + 1 => fun h => by simp [alkC] at h
  | x :: t, m + 1 => fun h => by
    unfold alkC at h
    split at h
    · rename_i hx
      rw [List.take_succ_cons, List.replicate_succ, alkC_take (c := c) t m (by omega), hx]
    · omega
theorem prs_pk : ∀ (f : Nat) (s : List Int), s.length ≤ f → Pk s (prs f s) := by
  intro f
  induction f with
  | zero => intro s h; obtain rfl : s = [] := List.length_eq_zero_iff.1 (by omega); exact .nil
  | succ f ih =>
    intro s h
    cases s with
    | nil => rw [prs_nil]; exact .nil
    | cons c t =>
      have hal := alk_le (c :: t)
      by_cases h3 : 3 ≤ alk (c :: t)
      · rw [prs_run rfl h3]
        generalize hm : min (alk (c :: t)) 129 = m at *
        have hk := ih ((c :: t).drop m) (by simp at h ⊢; omega)
        have e : (c :: t) = List.replicate m c ++ (c :: t).drop m := by
          obtain ⟨k, rfl⟩ : ∃ k, m = k + 1 := ⟨m - 1, by omega⟩
          have : (c :: t).take (k + 1) = List.replicate (k + 1) c := by
            rw [List.take_succ_cons, List.replicate_succ, alkC_take (c := c) t k (by simp [alk] at hm; omega)]
          rw [← this, List.take_append_drop]
        have := Pk.run m c _ _ (by omega) (by omega) hk
        rw [← e] at this
        exact this
      · rw [prs_plain rfl h3]
        have hp := pln_le (c := c) (t := t)
        have h1 : 1 ≤ pln (c :: t) := by unfold pln; omega
        generalize pln (c :: t) = k at *
        have hk := ih ((c :: t).drop k) (by simp at h ⊢; omega)
        have hl : ((c :: t).take k).length = k := by simp; omega
        have := Pk.plain ((c :: t).take k) _ _ (by omega) (by omega) hk
        rw [List.take_append_drop, hl] at this
        exact this
theorem Pk.byt {s b : List Int} (h : Pk s b) : Byt s → Byt b := by
  induction h with
  | nil => exact fun h => h
  | run m c s b h1 h2 _ ih =>
    intro hs y hy
    rcases List.mem_cons.1 hy with rfl | hy
    · omega
    rcases List.mem_cons.1 hy with rfl | hy
    · exact hs _ (List.mem_append_left _ (List.mem_replicate.2 ⟨by omega, rfl⟩))
    · exact ih (fun z hz => hs z (List.mem_append_right _ hz)) y hy
  | plain p s b h1 h2 _ ih =>
    intro hs y hy
    rcases List.mem_cons.1 hy with rfl | hy
    · omega
    rcases List.mem_append.1 hy with hy | hy
    · exact hs y (List.mem_append_left _ hy)
    · exact ih (fun z hz => hs z (List.mem_append_right _ hz)) y hy
theorem Pk.pos {s b : List Int} (h : Pk s b) (hs : s ≠ []) : b ≠ [] := by cases h <;> first | exact absurd rfl hs | simp
theorem Pk.nilB {s b : List Int} (h : Pk s b) (hs : s = []) : b = [] := by
  cases h with
  | nil => rfl
  | run m c s b h1 h2 h => obtain ⟨k, rfl⟩ : ∃ k, m = k + 1 := ⟨m - 1, by omega⟩; simp at hs
  | plain p s b h1 h2 h => obtain ⟨h3, h4⟩ := List.append_eq_nil_iff.1 hs; rw [h3] at h1; simp at h1
theorem sprd_runStep {most : Int} {f m : Nat} {out : List Int} {c : Int} {t : List Int} (h1 : 3 ≤ m) : sprd most (f + 1) out (((m : Int) + 126) :: c :: t) = if (m : Int) > most - out.length then .inr 8 else sprd most f (out ++ List.replicate m c) t := by
  rw [sprd, if_pos (by omega), if_neg (by simp)]
  rw [show (m : Int) + 126 - 126 = m by omega, Int.toNat_natCast]
  rfl
theorem sprd_plainStep {most : Int} {f : Nat} {out p t : List Int} (h1 : 1 ≤ p.length) (h2 : p.length ≤ 128) : sprd most (f + 1) out (((p.length : Int) - 1) :: (p ++ t)) = if (p.length : Int) > most - out.length then .inr 8 else sprd most f (out ++ p) t := by
  rw [sprd, if_neg (by omega), if_neg (by simp; omega)]
  rw [show (p.length : Int) - 1 + 1 = p.length by omega, Int.toNat_natCast]
  simp
theorem Pk.all {s b : List Int} (h : Pk s b) {most : Int} : ∀ (f : Nat) (out : List Int), b.length ≤ f → (out.length : Int) + s.length ≤ most → sprd most f out b = .inl (out ++ s) := by
  induction h with
  | nil => intro f out _ _; rw [sprd_nil, List.append_nil]
  | run m c s b h1 h2 _ ih =>
    intro f out hf hm
    obtain ⟨f, rfl⟩ : ∃ k, f = k + 1 := ⟨f - 1, by simp at hf; omega⟩
    simp only [List.length_append, List.length_replicate, List.length_cons] at hf hm
    rw [sprd_runStep h1, if_neg (by omega), ih f _ (by omega) (by simp; omega), List.append_assoc]
  | plain p s b h1 h2 _ ih =>
    intro f out hf hm
    obtain ⟨f, rfl⟩ : ∃ k, f = k + 1 := ⟨f - 1, by simp at hf; omega⟩
    simp only [List.length_append, List.length_cons] at hf hm
    rw [sprd_plainStep h1 h2, if_neg (by omega), ih f _ (by omega) (by simp; omega), List.append_assoc]
theorem Pk.less {s b : List Int} (h : Pk s b) {most : Int} : ∀ (f : Nat) (out : List Int), b.length ≤ f → (out.length : Int) ≤ most → most < (out.length : Int) + s.length → sprd most f out b = .inr 8 := by
  induction h with
  | nil => intro f out _ h1 h2; simp at h2; omega
  | run m c s b h1 h2 _ ih =>
    intro f out hf hm hn
    obtain ⟨f, rfl⟩ : ∃ k, f = k + 1 := ⟨f - 1, by simp at hf; omega⟩
    simp only [List.length_append, List.length_replicate, List.length_cons] at hf hn
    rw [sprd_runStep h1]
    by_cases hb : (m : Int) > most - out.length
    · rw [if_pos hb]
    · rw [if_neg hb, ih f _ (by omega) (by simp; omega) (by simp; omega)]
  | plain p s b h1 h2 _ ih =>
    intro f out hf hm hn
    obtain ⟨f, rfl⟩ : ∃ k, f = k + 1 := ⟨f - 1, by simp at hf; omega⟩
    simp only [List.length_append, List.length_cons] at hf hn
    rw [sprd_plainStep h1 h2]
    by_cases hb : (p.length : Int) > most - out.length
    · rw [if_pos hb]
    · rw [if_neg hb, ih f _ (by omega) (by simp; omega) (by simp; omega)]
theorem Pk.short {s b : List Int} (h : Pk s b) {most : Int} : ∀ (f : Nat) (out : List Int), b.length ≤ f + 1 → s ≠ [] → (out.length : Int) + s.length ≤ most → sprd most f out b.dropLast = .inr 9 := by
  induction h with
  | nil => intro f out _ h1; exact absurd rfl h1
  | run m c s b h1 h2 hb ih =>
    intro f out hf hs hm
    obtain ⟨f, rfl⟩ : ∃ k, f = k + 1 := ⟨f - 1, by simp at hf; omega⟩
    simp only [List.length_append, List.length_replicate, List.length_cons] at hf hm
    by_cases hz : s = []
    · obtain rfl := hb.nilB hz
      show sprd most (f + 1) out [(m : Int) + 126] = _
      rw [sprd, if_pos (by omega), if_pos (by simp)]
    · have e : (((m : Int) + 126) :: c :: b).dropLast = ((m : Int) + 126) :: c :: b.dropLast := by
        rw [List.dropLast_cons_of_ne_nil (by simp), List.dropLast_cons_of_ne_nil (hb.pos hz)]
      rw [e, sprd_runStep h1, if_neg (by omega), ih f _ (by omega) hz (by simp; omega)]
  | plain p s b h1 h2 hb ih =>
    intro f out hf hs hm
    simp only [List.length_append, List.length_cons] at hf hm
    obtain ⟨f, rfl⟩ : ∃ k, f = k + 1 := ⟨f - 1, by omega⟩
    by_cases hz : s = []
    · obtain rfl := hb.nilB hz
      rw [List.append_nil, List.dropLast_cons_of_ne_nil (by intro h; rw [h] at h1; simp at h1)]
      rw [sprd, if_neg (by omega), if_pos (by simp; omega)]
    · have e : (((p.length : Int) - 1) :: (p ++ b)).dropLast = ((p.length : Int) - 1) :: (p ++ b.dropLast) := by
        rw [List.dropLast_cons_of_ne_nil (by simp [hb.pos hz]), List.dropLast_append_of_ne_nil (hb.pos hz)]
      rw [e, sprd_plainStep h1 h2, if_neg (by omega), ih f _ (by omega) hz (by simp; omega)]
end Go.Proofs.Ytcpbiijegbbafaa
