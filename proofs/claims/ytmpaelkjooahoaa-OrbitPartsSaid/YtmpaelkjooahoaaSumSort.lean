/- Keys of which those of one time are the same: sorted, each time once. No condition. -/
import Derived.Test.YtmpaelkjooahoaaSymS
import Derived.Test.YtmpaelkjooahoaaSortLaw
set_option linter.unusedVariables false
set_option linter.unusedSimpArgs false
namespace Go.Proofs.Ytmpaelkjooahoaa
open Go.RowKit

theorem dd_mem {z : K4} : ∀ {A : List K4}, (∀ x ∈ A, ∀ y ∈ A, x.1 = y.1 → x = y) → (z ∈ dd A ↔ z ∈ A) := by
  intro A
  induction A with
  | nil => intro _; rfl
  | cons x A ih =>
    intro hu
    cases A with
    | nil => rfl
    | cons y r =>
      have hi := ih fun p hp q hq => hu p (List.mem_cons_of_mem _ hp) q (List.mem_cons_of_mem _ hq)
      simp only [dd]
      split
      · rename_i e
        have : y = x := hu y (by simp) x (by simp) e
        subst this
        rw [hi]; simp
      · rw [List.mem_cons, hi]; simp only [List.mem_cons]
theorem dd_strict : ∀ {A : List K4}, Asc A → Strict (dd A) := by
  intro A
  induction A with
  | nil => intro _; exact List.Pairwise.nil
  | cons x A ih =>
    intro h
    cases A with
    | nil => exact List.pairwise_cons.2 ⟨fun z hz => (by cases hz), List.Pairwise.nil⟩
    | cons y r =>
      have h1 := List.pairwise_cons.1 h
      have hi := ih h1.2
      simp only [dd]
      split
      · exact hi
      · rename_i e
        obtain ⟨k, M, e1, e2⟩ := dd_head (B := r) (y := y)
        rw [e1] at hi ⊢
        have hk := List.pairwise_cons.1 hi
        have hxy := h1.1 y (by simp)
        refine List.pairwise_cons.2 ⟨fun z hz => ?_, hi⟩
        rcases List.mem_cons.1 hz with rfl | hz
        · omega
        · have := hk.1 z hz; omega
theorem strict_ext : ∀ {A B : List K4}, Strict A → Strict B → (∀ z, z ∈ A ↔ z ∈ B) → A = B := by
  intro A
  induction A with
  | nil =>
    intro B _ _ h
    cases B with
    | nil => rfl
    | cons b B => exact absurd ((h b).2 (by simp)) (by simp)
  | cons a A ih =>
    intro B hA hB h
    cases B with
    | nil => exact absurd ((h a).1 (by simp)) (by simp)
    | cons b B =>
      have ha := List.pairwise_cons.1 hA
      have hb := List.pairwise_cons.1 hB
      have e : a = b := by
        rcases List.mem_cons.1 ((h a).1 (by simp)) with e | e
        · exact e
        · rcases List.mem_cons.1 ((h b).2 (by simp)) with e' | e'
          · exact e'.symm
          · have := hb.1 a e; have := ha.1 b e'; omega
      subst e
      congr 1
      refine ih ha.2 hb.2 fun z => ⟨fun hz => ?_, fun hz => ?_⟩
      · rcases List.mem_cons.1 ((h z).1 (List.mem_cons_of_mem _ hz)) with e | e
        · subst e; have := ha.1 z hz; omega
        · exact e
      · rcases List.mem_cons.1 ((h z).2 (List.mem_cons_of_mem _ hz)) with e | e
        · subst e; have := hb.1 z hz; omega
        · exact e
theorem srtA_mem {z : K4} (l : List K4) : z ∈ srtA l ↔ z ∈ l := by
  suffices h : ∀ (l A : List K4), z ∈ l.foldl (fun A x => insA x A) A ↔ z ∈ A ∨ z ∈ l from by
    have := h l []
    simpa [srtA] using this
  intro l
  induction l with
  | nil => intro A; simp
  | cons x l ih =>
    intro A
    rw [List.foldl_cons, ih, insA_mem]
    simp only [List.mem_cons]
    exact ⟨fun h => by rcases h with (h | h) | h <;> simp [h], fun h => by rcases h with h | h | h <;> simp [h]⟩
theorem kOf_mem {l : List (List Ct)} {z : K4} : z ∈ kOf l ↔ ∃ k, k < l.length ∧ z = kA l k := by
  have hk := kOf_length (l := l)
  constructor
  · intro h
    obtain ⟨k, h1, h2⟩ := List.getElem_of_mem h
    refine ⟨k, by omega, ?_⟩
    have := kOf_rd (l := l) (i := k) (by omega)
    rw [List.getElem?_eq_getElem h1] at this
    rw [← h2]; exact Option.some.inj this
  · rintro ⟨k, h1, rfl⟩
    have := kOf_rd (l := l) (i := k) h1
    exact List.mem_of_getElem? this
theorem asc_of {l : List (List Ct)} (s : Srt 0 l.length l) : Asc (kOf l) := by
  have hk := kOf_length (l := l)
  rw [Asc, List.pairwise_iff_getElem]
  intro i j hi hj hij
  have e1 := kOf_rd (l := l) (i := i) (by omega)
  have e2 := kOf_rd (l := l) (i := j) (by omega)
  rw [List.getElem?_eq_getElem hi] at e1
  rw [List.getElem?_eq_getElem hj] at e2
  rw [Option.some.inj e1, Option.some.inj e2]
  exact s i j (Nat.zero_le _) hij (by omega)
/-- The stable sort, of keys of which those of one time are the same. -/
theorem stb_uni {l : List (List Ct)} (h1 : 1 ≤ l.length) (h2 : l.length < 40) (hu : ∀ x ∈ kOf l, ∀ y ∈ kOf l, x.1 = y.1 → x = y) : ∃ r, stb_res l (l.length : Int) = some r ∧ stb_v l (l.length : Int) = r ∧ r.length = l.length ∧ dd (kOf r) = srtU (kOf l) := by
  by_cases c : l.length ≤ 19
  · obtain ⟨r, g1, g2, g3⟩ := stb_few h1 c
    exact ⟨r, g1, g2, by rw [← kOf_length (l := r), g3, srtA_length, kOf_length], by rw [g3, srt_both]⟩
  · obtain ⟨r, g1, g2, g3, g4⟩ := stb_many (l := l) (by omega) h2
    have hm : ∀ z, z ∈ kOf r ↔ z ∈ kOf l := fun z => by
      rw [kOf_mem, kOf_mem]
      constructor
      · rintro ⟨k, k1, rfl⟩
        obtain ⟨q, q1, q2, q3⟩ := g3.to k (Nat.zero_le _) (by have := g3.len; omega)
        exact ⟨q, q2, q3⟩
      · rintro ⟨k, k1, rfl⟩
        obtain ⟨q, q1, q2, q3⟩ := g3.fro k (Nat.zero_le _) k1
        exact ⟨q, by have := g3.len; omega, q3⟩
    have ur : ∀ x ∈ kOf r, ∀ y ∈ kOf r, x.1 = y.1 → x = y := fun x hx y hy => hu x ((hm x).1 hx) y ((hm y).1 hy)
    have us : ∀ x ∈ srtA (kOf l), ∀ y ∈ srtA (kOf l), x.1 = y.1 → x = y := fun x hx y hy => hu x ((srtA_mem _).1 hx) y ((srtA_mem _).1 hy)
    refine ⟨r, g1, g2, g3.len, ?_⟩
    rw [← srt_both]
    refine strict_ext (dd_strict (asc_of (by rw [g3.len]; exact g4))) (dd_strict (srtA_asc _)) fun z => ?_
    rw [dd_mem ur, dd_mem us, hm, srtA_mem]
end Go.Proofs.Ytmpaelkjooahoaa
