/- Pressed bytes in plain numbers: what the loops of packing answer. No condition. -/
import Derived.Test.YtcpbiijegbbafaaPackA
import Derived.Test.YtcpbiijegbbafaaLoopA
set_option linter.unusedVariables false
set_option linter.unusedSimpArgs false
namespace Go.Proofs.Ytcpbiijegbbafaa
open Go.RowKit


/-- How often c stands ahead; how often the first one does; how many go till a run begins. -/
def alkC (c : Int) : List Int → Nat
  | [] => 0
  | x :: t => if x = c then alkC c t + 1 else 0
def alk : List Int → Nat
  | [] => 0
  | c :: t => alkC c t + 1
def plnF : Nat → List Int → Nat
  | 0, _ => 0
  | _ + 1, [] => 0
  | m + 1, c :: t => if alk (c :: t) < 3 then plnF m t + 1 else 0
def pln (s : List Int) : Nat := plnF 127 s.tail + 1
def prs : Nat → List Int → List Int
  | 0, _ => []
  | _ + 1, [] => []
  | f + 1, c :: t => if 3 ≤ alk (c :: t) then (((min (alk (c :: t)) 129 : Nat) : Int) + 126) :: c :: prs f ((c :: t).drop (min (alk (c :: t)) 129))
    else (((pln (c :: t) : Nat) : Int) - 1) :: ((c :: t).take (pln (c :: t)) ++ prs f ((c :: t).drop (pln (c :: t))))
theorem alkC_le (c : Int) : ∀ s : List Int, alkC c s ≤ s.length
  | [] => Nat.le_refl _
  | x :: t => by unfold alkC; have := alkC_le c t; split <;> simp <;> omega
theorem alk_le (s : List Int) : alk s ≤ s.length := by cases s with | nil => exact Nat.le_refl _ | cons c t => simp [alk]; exact alkC_le c t
theorem plnF_le : ∀ (m : Nat) (s : List Int), plnF m s ≤ m ∧ plnF m s ≤ s.length
  | 0, s => by simp [plnF]
  | m + 1, [] => by simp [plnF]
  | m + 1, c :: t => by have := plnF_le m t; unfold plnF; split <;> simp <;> omega
theorem pln_le {c : Int} {t : List Int} : pln (c :: t) ≤ 128 ∧ pln (c :: t) ≤ t.length + 1 := by
  have := plnF_le 127 t; simp only [pln, List.tail_cons]; omega

theorem prun_it {x0 : List (List Ct)} {p most : Nat} (hl : x0.length ≤ 20000) (hm : most ≤ 129) (hp : p < x0.length) :
    ∀ (s : List Int) (n fuel : Nat), (col x0).drop (p + n) = s → n ≤ most → most - n < fuel →
      iter (prun_L0_step x0 (p : Int) (most : Int)) fuel (n : Int) = some ((n + min (most - n) (alkC (rd x0 p 0).int s) : Nat) : Int) := by
  intro s
  induction s with
  | nil =>
    intro n fuel hs hn hf
    obtain ⟨fuel, rfl⟩ : ∃ k, fuel = k + 1 := ⟨fuel - 1, by omega⟩
    have h1 := drop_nil hs
    rw [col_length] at h1
    have w : IntKind.i64.wrap ((p : Int) + n) = ((p + n : Nat) : Int) := by rw [wrap_in (by omega) (by omega)]; omega
    have q : ¬ (((p + n : Nat) : Int) < (x0.length : Int)) := by omega
    rw [iter_inr (r := (n : Int))]
    · simp [alkC]
    · simp only [prun_L0_step, w, decide_eq_false q, cond_false, Bool.cond_self]
  | cons y t ih =>
    intro n fuel hs hn hf
    obtain ⟨fuel, rfl⟩ : ∃ k, fuel = k + 1 := ⟨fuel - 1, by omega⟩
    obtain ⟨h1, h2, h3⟩ := drop_cons hs
    rw [col_length] at h1
    have w : IntKind.i64.wrap ((p : Int) + n) = ((p + n : Nat) : Int) := by rw [wrap_in (by omega) (by omega)]; omega
    have w1 : IntKind.i64.wrap ((n : Int) + 1) = ((n + 1 : Nat) : Int) := by rw [wrap_in (by omega) (by omega)]; omega
    have q1 : (((p + n : Nat) : Int) < (x0.length : Int)) := by omega
    have q2 : ((0 : Int) ≤ ((p + n : Nat) : Int) ∧ ((p + n : Nat) : Int) < (x0.length : Int)) := by omega
    have q3 : ((0 : Int) ≤ (p : Int) ∧ (p : Int) < (x0.length : Int)) := by omega
    by_cases h : n = most
    · subst h
      rw [iter_inr (r := (n : Int))]
      · simp
      · simp only [prun_L0_step, Int.lt_irrefl, decide_false, cond_false]
    have q0 : (n : Int) < (most : Int) := by omega
    have hst : prun_L0_step x0 (p : Int) (most : Int) (n : Int) = if y = (rd x0 p 0).int then some (.inl ((n + 1 : Nat) : Int)) else some (.inr (n : Int)) := by
      simp only [prun_L0_step, w, w1, decide_eq_true q0, decide_eq_true q1, decide_eq_true q2, decide_eq_true q3, cond_true, Int.toNat_natCast, rd_col, h2]
      by_cases hy : y = (col x0).getD p 0
      · simp [hy]
      · simp [hy]
    by_cases hy : y = (rd x0 p 0).int
    · rw [if_pos hy] at hst
      rw [iter_inl hst, ih (n + 1) fuel (by rw [← h3]; rfl) (by omega) (by omega)]
      simp only [alkC, if_pos hy]
      congr 2
      omega
    · rw [if_neg hy] at hst
      rw [iter_inr hst]
      simp [alkC, hy]
theorem prun_is {x0 : List (List Ct)} {p most : Nat} (hl : x0.length ≤ 20000) (h0 : 1 ≤ most) (hm : most ≤ 129) (hp : p < x0.length) :
    prun_L0_p x0 (p : Int) (most : Int) = true ∧ prun_v x0 (p : Int) (most : Int) = ((min most (alk ((col x0).drop p)) : Nat) : Int) := by
  have := prun_it hl hm hp ((col x0).drop (p + 1)) 1 1000 rfl h0 (by omega)
  have hd : (col x0).drop p = (rd x0 p 0).int :: (col x0).drop (p + 1) := by
    have hp' : p < (col x0).length := by rw [col_length]; exact hp
    rw [List.drop_eq_getElem_cons hp', rd_col]; simp [List.getD, hp']
  have e : ((1 : Nat) : Int) = (1 : Int) := rfl
  rw [e] at this
  refine ⟨by unfold prun_L0_p; rw [this]; rfl, ?_⟩
  unfold prun_v prun_L0_v loopRes
  rw [this, hd]
  simp only [Option.getD_some, alk]
  omega

theorem palk_it {x0 : List (List Ct)} {p : Nat} (hl : x0.length ≤ 20000) (hp : p < x0.length) :
    ∀ (s : List Int) (n i fuel : Nat), (col x0).drop i = s → n ≤ i → s.length < fuel →
      iter (palk_L0_step x0 (p : Int)) fuel ((n : Int), (i : Int)) = some (((n + alkC (rd x0 p 0).int s : Nat) : Int), ((i + alkC (rd x0 p 0).int s : Nat) : Int)) := by
  intro s
  induction s with
  | nil =>
    intro n i fuel hs hn hf
    obtain ⟨fuel, rfl⟩ : ∃ k, fuel = k + 1 := ⟨fuel - 1, by simp at hf; omega⟩
    have h1 := drop_nil hs
    rw [col_length] at h1
    have q : ¬ ((i : Int) < (x0.length : Int)) := by omega
    rw [iter_inr (r := ((n : Int), (i : Int)))]
    · simp [alkC]
    · simp only [palk_L0_step, decide_eq_false q, cond_false]
  | cons y t ih =>
    intro n i fuel hs hn hf
    obtain ⟨fuel, rfl⟩ : ∃ k, fuel = k + 1 := ⟨fuel - 1, by simp at hf; omega⟩
    obtain ⟨h1, h2, h3⟩ := drop_cons hs
    rw [col_length] at h1
    have w : IntKind.i64.wrap ((i : Int) + 1) = ((i + 1 : Nat) : Int) := by rw [wrap_in (by omega) (by omega)]; omega
    have w1 : IntKind.i64.wrap ((n : Int) + 1) = ((n + 1 : Nat) : Int) := by rw [wrap_in (by omega) (by omega)]; omega
    have q1 : ((i : Int) < (x0.length : Int)) := by omega
    have q2 : ((0 : Int) ≤ (i : Int) ∧ (i : Int) < (x0.length : Int)) := by omega
    have q3 : ((0 : Int) ≤ (p : Int) ∧ (p : Int) < (x0.length : Int)) := by omega
    have hst : palk_L0_step x0 (p : Int) ((n : Int), (i : Int)) = if y = (rd x0 p 0).int then some (.inl (((n + 1 : Nat) : Int), ((i + 1 : Nat) : Int))) else some (.inr ((n : Int), (i : Int))) := by
      simp only [palk_L0_step, w, w1, decide_eq_true q1, decide_eq_true q2, decide_eq_true q3, cond_true, Int.toNat_natCast, rd_col, h2]
      by_cases hy : y = (col x0).getD p 0
      · simp [hy]
      · simp [hy]
    by_cases hy : y = (rd x0 p 0).int
    · rw [if_pos hy] at hst
      rw [iter_inl hst, ih (n + 1) (i + 1) fuel h3 (by omega) (by simp at hf; omega)]
      simp only [alkC, if_pos hy]
      congr 2 <;> congr 1 <;> omega
    · rw [if_neg hy] at hst
      rw [iter_inr hst]
      simp [alkC, hy]
theorem palk_is {x0 : List (List Ct)} {p : Nat} (hl : x0.length ≤ 20000) (hp : p < x0.length) :
    palk_L0_p x0 (p : Int) = true ∧ palk_v x0 (p : Int) = ((alk ((col x0).drop p) : Nat) : Int) := by
  have := palk_it hl hp ((col x0).drop p) 0 p (x0.length + 1) rfl (by omega) (by simp [col_length]; omega)
  have hd : (col x0).drop p = (rd x0 p 0).int :: (col x0).drop (p + 1) := by
    have hp' : p < (col x0).length := by rw [col_length]; exact hp
    rw [List.drop_eq_getElem_cons hp', rd_col]; simp [List.getD, hp']
  have e : ((0 : Nat) : Int) = (0 : Int) := rfl
  rw [e] at this
  refine ⟨by unfold palk_L0_p; rw [this]; rfl, ?_⟩
  unfold palk_v palk_L0_v loopRes
  rw [this, hd]
  simp [alk, alkC]

theorem ppln_it {x0 : List (List Ct)} {p : Nat} (hl : x0.length ≤ 20000) (hq : p < x0.length) :
    ∀ (m n fuel : Nat), n + m = 128 → m < fuel → iter (ppln_L0_step x0 (p : Int)) fuel (n : Int) = some ((n + plnF m ((col x0).drop (p + n)) : Nat) : Int) := by
  intro m
  induction m with
  | zero =>
    intro n fuel hn hf
    obtain ⟨fuel, rfl⟩ : ∃ k, fuel = k + 1 := ⟨fuel - 1, by omega⟩
    have q : ¬ ((n : Int) < 128) := by omega
    rw [iter_inr (r := (n : Int))]
    · simp [plnF]
    · simp only [ppln_L0_step, decide_eq_false q, cond_false]
  | succ m ih =>
    intro n fuel hn hf
    obtain ⟨fuel, rfl⟩ : ∃ k, fuel = k + 1 := ⟨fuel - 1, by omega⟩
    by_cases hp : p + n < x0.length
    · have w : IntKind.i64.wrap ((p : Int) + n) = ((p + n : Nat) : Int) := by rw [wrap_in (by omega) (by omega)]; omega
      have w1 : IntKind.i64.wrap ((n : Int) + 1) = ((n + 1 : Nat) : Int) := by rw [wrap_in (by omega) (by omega)]; omega
      have q0 : (n : Int) < 128 := by omega
      have q1 : ((p + n : Nat) : Int) < (x0.length : Int) := by omega
      obtain ⟨r1, r2⟩ := prun_is (most := 3) hl (by omega) (by omega) hp
      have e3 : ((3 : Nat) : Int) = (3 : Int) := rfl
      rw [e3] at r1 r2
      have hd : (col x0).drop (p + n) = (rd x0 (p + n) 0).int :: (col x0).drop (p + (n + 1)) := by
        have hp' : p + n < (col x0).length := by rw [col_length]; exact hp
        rw [List.drop_eq_getElem_cons hp', rd_col]; simp [List.getD, hp', Nat.add_assoc]
      have hst : ppln_L0_step x0 (p : Int) (n : Int) = if alk ((col x0).drop (p + n)) < 3 then some (.inl ((n + 1 : Nat) : Int)) else some (.inr (n : Int)) := by
        simp only [ppln_L0_step, w, w1, r1, r2, decide_eq_true q0, decide_eq_true q1, cond_true]
        by_cases h : alk ((col x0).drop (p + n)) < 3
        · have : ((min 3 (alk ((col x0).drop (p + n))) : Nat) : Int) < 3 := by omega
          rw [decide_eq_true this, if_pos h]; rfl
        · have : ¬ ((min 3 (alk ((col x0).drop (p + n))) : Nat) : Int) < 3 := by omega
          rw [decide_eq_false this, if_neg h]; rfl
      by_cases h : alk ((col x0).drop (p + n)) < 3
      · rw [if_pos h] at hst
        rw [iter_inl hst, ih (n + 1) fuel (by omega) (by omega), hd, plnF, ← hd, if_pos h, Nat.add_assoc, Nat.add_comm 1]
      · rw [if_neg h] at hst
        have e0 : plnF (m + 1) ((col x0).drop (p + n)) = 0 := by rw [hd, plnF, ← hd, if_neg h]
        rw [iter_inr hst, e0, Nat.add_zero]
    · have w : IntKind.i64.wrap ((p : Int) + n) = IntKind.i64.wrap ((p : Int) + n) := rfl
      rw [List.drop_eq_nil_of_le (by rw [col_length]; omega)]
      have q0 : (n : Int) < 128 := by omega
      rw [iter_inr (r := (n : Int))]
      · simp [plnF]
      · have w : IntKind.i64.wrap ((p : Int) + n) = ((p + n : Nat) : Int) := by rw [wrap_in (by omega) (by omega)]; omega
        have q1 : ¬ ((p + n : Nat) : Int) < (x0.length : Int) := by omega
        simp only [ppln_L0_step, w, decide_eq_true q0, decide_eq_false q1, cond_true, cond_false]
theorem ppln_is {x0 : List (List Ct)} {p : Nat} (hl : x0.length ≤ 20000) (hp : p < x0.length) :
    ppln_L0_p x0 (p : Int) = true ∧ ppln_v x0 (p : Int) = ((pln ((col x0).drop p) : Nat) : Int) := by
  have := ppln_it hl hp 127 1 1000 rfl (by omega)
  have e : ((1 : Nat) : Int) = (1 : Int) := rfl
  rw [e] at this
  refine ⟨by unfold ppln_L0_p; rw [this]; rfl, ?_⟩
  unfold ppln_v ppln_L0_v loopRes
  rw [this]
  simp only [Option.getD_some, pln, List.tail_drop]
  omega
theorem prs_run {f : Nat} {s : List Int} {c : Int} {t : List Int} (hs : s = c :: t) (h : 3 ≤ alk s) : prs (f + 1) s = (((min (alk s) 129 : Nat) : Int) + 126) :: c :: prs f (s.drop (min (alk s) 129)) := by
  subst hs; rw [prs, if_pos h]
theorem prs_plain {f : Nat} {s : List Int} {c : Int} {t : List Int} (hs : s = c :: t) (h : ¬ 3 ≤ alk s) : prs (f + 1) s = (((pln s : Nat) : Int) - 1) :: (s.take (pln s) ++ prs f (s.drop (pln s))) := by
  subst hs; rw [prs, if_neg h]
theorem prs_nil {f : Nat} : prs f [] = [] := by cases f <;> rfl

theorem pprs_it {x0 : List (List Ct)} (hl : x0.length ≤ 20000) :
    ∀ (f p : Nat) (vl : List (List Ct)), p ≤ x0.length → x0.length - p ≤ f → vl.length ≤ 2 * p →
      ∃ q vl', iter (pprs_L0_step x0) (f + 1) ((p : Int), vl) = some (q, vl') ∧ col vl' = col vl ++ prs f ((col x0).drop p) ∧ vl'.length ≤ 2 * x0.length := by
  intro f
  induction f with
  | zero =>
    intro p vl hp hf hv
    have q : ¬ ((p : Int) < (x0.length : Int)) := by omega
    refine ⟨p, vl, iter_inr ?_, ?_, by omega⟩
    · simp only [pprs_L0_step, decide_eq_false q, cond_false]
    · rw [prs]; simp
  | succ f ih =>
    intro p vl hp hf hv
    by_cases hpp : p < x0.length
    · have q0 : ((p : Int) < (x0.length : Int)) := by omega
      have q3 : ((0 : Int) ≤ (p : Int) ∧ (p : Int) < (x0.length : Int)) := by omega
      have hd := col_cons_at hpp
      have hal := alk_le ((col x0).drop p)
      rw [List.length_drop, col_length] at hal
      obtain ⟨r1, r2⟩ := prun_is (most := 129) hl (by omega) (by omega) hpp
      have e3 : ((129 : Nat) : Int) = (129 : Int) := rfl
      rw [e3, Nat.min_comm] at r2
      rw [e3] at r1
      by_cases h : 3 ≤ alk ((col x0).drop p)
      · generalize hm : min (alk ((col x0).drop p)) 129 = m at *
        have hm1 : 3 ≤ m ∧ m ≤ 129 ∧ p + m ≤ x0.length := by omega
        have w1 : IntKind.i64.wrap ((m : Int) + 126) = (m : Int) + 126 := wrap_in (by omega) (by omega)
        have w2 : IntKind.u8.wrap ((m : Int) + 126) = (m : Int) + 126 := wrap_u8 (by omega) (by omega)
        have w3 : IntKind.i64.wrap ((p : Int) + m) = ((p + m : Nat) : Int) := by rw [wrap_in (by omega) (by omega)]; omega
        have hst : pprs_L0_step x0 ((p : Int), vl) = some (.inl (((p + m : Nat) : Int), vl ++ [[Ct.i ((m : Int) + 126)], [Ct.i (rd x0 p 0).int]])) := by
          have q1 : (m : Int) ≥ 3 := by omega
          simp only [pprs_L0_step, r1, r2, cond_dec q0, cond_dec q1, cond_dec q3, cond_true, w1, w2, w3, Int.toNat_natCast]
          rw [cond_dec]
          simp only [List.length_cons, List.length_nil]; omega
        obtain ⟨q, vl', i1, i2, i3⟩ := ih (p + m) (vl ++ [[Ct.i ((m : Int) + 126)], [Ct.i (rd x0 p 0).int]]) (by omega) (by omega) (by simp; omega)
        refine ⟨q, vl', by rw [iter_inl hst]; exact i1, ?_, i3⟩
        rw [i2, prs_run hd h, hm, List.drop_drop, col_app, col_cons, col_cons, col_nil]
        simp [Ct.int]
      · obtain ⟨s1, s2⟩ := ppln_is hl hpp
        have hk : 1 ≤ pln ((col x0).drop p) ∧ pln ((col x0).drop p) ≤ 128 ∧ p + pln ((col x0).drop p) ≤ x0.length := by
          have := pln_le (c := (rd x0 p 0).int) (t := (col x0).drop (p + 1))
          rw [← hd, List.length_drop, col_length] at this
          refine ⟨by unfold pln; omega, by omega, by omega⟩
        have hpr := prs_plain (f := f) hd h
        generalize hm : pln ((col x0).drop p) = k at *
        have w1 : IntKind.i64.wrap ((k : Int) - 1) = (k : Int) - 1 := wrap_in (by omega) (by omega)
        have w2 : IntKind.u8.wrap ((k : Int) - 1) = (k : Int) - 1 := wrap_u8 (by omega) (by omega)
        have w3 : IntKind.i64.wrap ((p : Int) + k) = ((p + k : Nat) : Int) := by rw [wrap_in (by omega) (by omega)]; omega
        have hpl : (partOf x0 (p : Int) ((p + k : Nat) : Int)).length = k := by rw [part_length (by omega)]; omega
        have hst : pprs_L0_step x0 ((p : Int), vl) = some (.inl (((p + k : Nat) : Int), vl ++ [[Ct.i ((k : Int) - 1)]] ++ partOf x0 (p : Int) ((p + k : Nat) : Int))) := by
          have q1 : ¬ ((min (alk ((col x0).drop p)) 129 : Nat) : Int) ≥ 3 := by omega
          have q2 : ((0 : Int) ≤ (p : Int) ∧ (p : Int) ≤ ((p + k : Nat) : Int) ∧ ((p + k : Nat) : Int) ≤ (x0.length : Int)) := by omega
          simp only [pprs_L0_step, r1, r2, s1, s2, cond_dec q0, cond_not q1, cond_true, w1, w2, w3, Int.toNat_natCast]
          rw [cond_dec, cond_dec q2, cond_dec]
          · simp only [List.length_append, List.length_cons, List.length_nil, hpl]; omega
          · simp only [List.length_cons, List.length_nil]; omega
        obtain ⟨q, vl', i1, i2, i3⟩ := ih (p + k) (vl ++ [[Ct.i ((k : Int) - 1)]] ++ partOf x0 (p : Int) ((p + k : Nat) : Int)) (by omega) (by omega) (by simp only [List.length_append, List.length_cons, List.length_nil, hpl]; omega)
        refine ⟨q, vl', by rw [iter_inl hst]; exact i1, ?_, i3⟩
        rw [i2, hpr, List.drop_drop, col_app, col_app, col_cons, col_nil, col_part]
        simp only [Int.toNat_natCast, Nat.add_sub_cancel_left, Ct.int, List.append_assoc, List.cons_append, List.nil_append]
    · have q : ¬ ((p : Int) < (x0.length : Int)) := by omega
      refine ⟨p, vl, iter_inr ?_, ?_, by omega⟩
      · simp only [pprs_L0_step, decide_eq_false q, cond_false]
      · rw [List.drop_eq_nil_of_le (by rw [col_length]; omega), prs_nil, List.append_nil]
theorem pprs_is {x0 : List (List Ct)} (hl : x0.length ≤ 20000) : pprs_L0_p x0 = true ∧ col (pprs_v x0) = prs x0.length (col x0) ∧ (pprs_v x0).length ≤ 2 * x0.length := by
  obtain ⟨q, vl, h1, h2, h3⟩ := pprs_it hl x0.length 0 [] (by omega) (by omega) (by simp)
  have e : ((0 : Nat) : Int) = (0 : Int) := rfl
  rw [e] at h1
  refine ⟨by unfold pprs_L0_p; rw [h1]; rfl, ?_⟩
  unfold pprs_v pprs_L0_v loopRes
  rw [h1]
  exact ⟨by simpa [col_nil] using h2, h3⟩

theorem rprs2_it {x0 : List (List Ct)} {vl : List (List Ct)} {p : Nat} (hl : x0.length ≤ 20000) (hp : p < x0.length) :
    ∀ (m n fuel : Nat) (wl : List (List Ct)), n + m = 128 → m < fuel → 1 ≤ n → wl.length = n → p + n ≤ x0.length → col wl = ((col x0).drop p).take n →
      ∃ wl', iter (rprs_L2_step x0 (p : Int) vl) fuel (((p + n : Nat) : Int), wl) = some (((p + (n + plnF m ((col x0).drop (p + n))) : Nat) : Int), wl') ∧ wl'.length = n + plnF m ((col x0).drop (p + n)) ∧ col wl' = ((col x0).drop p).take (n + plnF m ((col x0).drop (p + n))) := by
  intro m
  induction m with
  | zero =>
    intro n fuel wl hn hf h1 hw hx hc
    obtain ⟨fuel, rfl⟩ : ∃ k, fuel = k + 1 := ⟨fuel - 1, by omega⟩
    refine ⟨wl, ?_, hw, hc⟩
    have q : ¬ ((wl.length : Int) < 128) := by omega
    rw [iter_inr (r := (((p + n : Nat) : Int), wl))]
    · rfl
    · simp only [rprs_L2_step, cond_not q, Bool.cond_self]
  | succ m ih =>
    intro n fuel wl hn hf h1 hw hx hc
    obtain ⟨fuel, rfl⟩ : ∃ k, fuel = k + 1 := ⟨fuel - 1, by omega⟩
    by_cases hpn : p + n < x0.length
    · have w1 : IntKind.i64.wrap (((p + n : Nat) : Int) + 1) = ((p + (n + 1) : Nat) : Int) := by rw [wrap_in (by omega) (by omega)]; omega
      have q0 : (wl.length : Int) < 128 := by omega
      have q1 : ((p + n : Nat) : Int) < (x0.length : Int) := by omega
      have q2 : ((0 : Int) ≤ ((p + n : Nat) : Int) ∧ ((p + n : Nat) : Int) < (x0.length : Int)) := by omega
      have q3 : ((wl.length : Int) == 0) = false := by simp; intro h; subst h; simp at hw; omega
      obtain ⟨r1, r2⟩ := palk_is hl hpn
      have hd := col_cons_at hpn
      have hst : rprs_L2_step x0 (p : Int) vl (((p + n : Nat) : Int), wl) = if alk ((col x0).drop (p + n)) < 3 then some (.inl (((p + (n + 1) : Nat) : Int), wl ++ [[Ct.i (rd x0 (p + n) 0).int]])) else some (.inr (((p + n : Nat) : Int), wl)) := by
        simp only [rprs_L2_step, cond_dec q0, cond_dec q1, q3, cond_false, r1, r2, cond_true, cond_dec q2, w1, Int.toNat_natCast]
        by_cases h : alk ((col x0).drop (p + n)) < 3
        · have : ((alk ((col x0).drop (p + n)) : Nat) : Int) < 3 := by omega
          rw [cond_dec this, if_pos h, cond_dec]
          simp only [List.length_cons, List.length_nil]; omega
        · have : ¬ ((alk ((col x0).drop (p + n)) : Nat) : Int) < 3 := by omega
          rw [cond_not this, if_neg h]
      by_cases h : alk ((col x0).drop (p + n)) < 3
      · rw [if_pos h] at hst
        have hc2 : col (wl ++ [[Ct.i (rd x0 (p + n) 0).int]]) = ((col x0).drop p).take (n + 1) := by
          rw [col_app, hc, List.take_add_one, List.getElem?_drop, rd_col]
          have : p + n < (col x0).length := by rw [col_length]; exact hpn
          simp [col, Ct.int, List.getD, this, hpn]
        obtain ⟨wl', i1, i2, i3⟩ := ih (n + 1) fuel (wl ++ [[Ct.i (rd x0 (p + n) 0).int]]) (by omega) (by omega) (by omega) (by simp [hw]) (by omega) hc2
        have e0 : plnF (m + 1) ((col x0).drop (p + n)) = plnF m ((col x0).drop (p + (n + 1))) + 1 := by rw [hd, plnF, ← hd, if_pos h, Nat.add_assoc]
        have e1 : n + plnF (m + 1) ((col x0).drop (p + n)) = n + 1 + plnF m ((col x0).drop (p + (n + 1))) := by rw [e0]; omega
        rw [e1]
        exact ⟨wl', by rw [iter_inl hst]; exact i1, i2, i3⟩
      · rw [if_neg h] at hst
        have e0 : plnF (m + 1) ((col x0).drop (p + n)) = 0 := by rw [hd, plnF, ← hd, if_neg h]
        rw [e0, Nat.add_zero]
        exact ⟨wl, iter_inr hst, hw, hc⟩
    · have q : ¬ ((p + n : Nat) : Int) < (x0.length : Int) := by omega
      rw [List.drop_eq_nil_of_le (by rw [col_length]; omega)]
      refine ⟨wl, ?_, hw, hc⟩
      rw [iter_inr (r := (((p + n : Nat) : Int), wl))]
      · rfl
      · simp only [rprs_L2_step, cond_not q]
theorem rprs2_is {x0 : List (List Ct)} {vl : List (List Ct)} {p : Nat} (hl : x0.length ≤ 20000) (hp : p < x0.length) :
    rprs_L2_p x0 (p : Int) vl = true ∧ (rprs_L2_v x0 (p : Int) vl).1 = ((p + pln ((col x0).drop p) : Nat) : Int) ∧ (rprs_L2_v x0 (p : Int) vl).2.length = pln ((col x0).drop p) ∧ col (rprs_L2_v x0 (p : Int) vl).2 = ((col x0).drop p).take (pln ((col x0).drop p)) := by
  have hd := col_cons_at hp
  have hst : rprs_L2_step x0 (p : Int) vl ((p : Int), []) = some (.inl (((p + 1 : Nat) : Int), [[Ct.i (rd x0 p 0).int]])) := by
    have q1 : (p : Int) < (x0.length : Int) := by omega
    have q2 : ((0 : Int) ≤ (p : Int) ∧ (p : Int) < (x0.length : Int)) := by omega
    have w1 : IntKind.i64.wrap ((p : Int) + 1) = ((p + 1 : Nat) : Int) := by rw [wrap_in (by omega) (by omega)]; omega
    simp only [rprs_L2_step, cond_dec q1, cond_dec q2, w1, Int.toNat_natCast]
    rfl
  obtain ⟨wl', i1, i2, i3⟩ := rprs2_it (vl := vl) hl hp 127 1 999 [[Ct.i (rd x0 p 0).int]] (by omega) (by omega) (by omega) rfl (by omega) (by rw [hd]; rfl)
  have e0 : 1 + plnF 127 ((col x0).drop (p + 1)) = pln ((col x0).drop p) := by rw [hd]; simp only [pln, List.tail_cons]; omega
  rw [e0] at i1 i2 i3
  have : iter (rprs_L2_step x0 (p : Int) vl) 1000 ((p : Int), []) = some (((p + pln ((col x0).drop p) : Nat) : Int), wl') := by rw [iter_inl hst]; exact i1
  unfold rprs_L2_p rprs_L2_v loopRes
  rw [this]
  exact ⟨rfl, rfl, i2, i3⟩
theorem rprs_it {x0 : List (List Ct)} (hl : x0.length ≤ 20000) :
    ∀ (f p : Nat) (vl : List (List Ct)), p ≤ x0.length → x0.length - p ≤ f → vl.length ≤ 2 * p →
      ∃ q vl', iter (rprs_L0_step x0) (f + 1) ((p : Int), vl) = some (q, vl') ∧ col vl' = col vl ++ prs f ((col x0).drop p) := by
  intro f
  induction f with
  | zero =>
    intro p vl hp hf hv
    have q : ¬ ((p : Int) < (x0.length : Int)) := by omega
    refine ⟨p, vl, iter_inr ?_, ?_⟩
    · simp only [rprs_L0_step, cond_not q]
    · rw [prs]; simp
  | succ f ih =>
    intro p vl hp hf hv
    by_cases hpp : p < x0.length
    · have q0 : ((p : Int) < (x0.length : Int)) := by omega
      have q3 : ((0 : Int) ≤ (p : Int) ∧ (p : Int) < (x0.length : Int)) := by omega
      have hd := col_cons_at hpp
      have hal := alk_le ((col x0).drop p)
      rw [List.length_drop, col_length] at hal
      obtain ⟨r1, r2⟩ := palk_is hl hpp
      by_cases h : 3 ≤ alk ((col x0).drop p)
      · have hpr := prs_run (f := f) hd h
        generalize hm : min (alk ((col x0).drop p)) 129 = m at *
        have hm1 : 3 ≤ m ∧ m ≤ 129 ∧ p + m ≤ x0.length := by omega
        have w3 : IntKind.i64.wrap ((p : Int) + m) = ((p + m : Nat) : Int) := by rw [wrap_in (by omega) (by omega)]; omega
        have hst : rprs_L0_step x0 ((p : Int), vl) = some (.inl (((p + m : Nat) : Int), vl ++ [[Ct.i ((m : Int) + 126)]] ++ [[Ct.i (rd x0 p 0).int]])) := by
          have q1 : (((alk ((col x0).drop p) : Nat) : Int) ≥ 3) := by omega
          by_cases hb : ((alk ((col x0).drop p) : Nat) : Int) > 129
          · obtain rfl : m = 129 := by omega
            have e3 : ((129 : Nat) : Int) = (129 : Int) := rfl
            rw [e3] at w3
            simp only [rprs_L0_step, r1, r2, cond_dec q0, cond_dec q1, cond_dec hb, cond_dec q3, cond_true, w3, Int.toNat_natCast]
            rw [cond_dec, cond_dec]
            · rfl
            · simp only [List.length_append, List.length_cons, List.length_nil]; omega
            · simp only [List.length_append, List.length_cons, List.length_nil]; omega
          · have em : alk ((col x0).drop p) = m := by omega
            have w1 : IntKind.i64.wrap (126 + (m : Int)) = (m : Int) + 126 := by rw [wrap_in (by omega) (by omega)]; omega
            have w2 : IntKind.u8.wrap ((m : Int) + 126) = (m : Int) + 126 := wrap_u8 (by omega) (by omega)
            simp only [em] at r2 hb q1
            simp only [rprs_L0_step, r1, r2, cond_dec q0, cond_dec q1, cond_not hb, cond_dec q3, cond_true, w1, w2, w3, Int.toNat_natCast]
            rw [cond_dec, cond_dec]
            · simp only [List.length_append, List.length_cons, List.length_nil]; omega
            · simp only [List.length_append, List.length_cons, List.length_nil]; omega
        obtain ⟨q, vl', i1, i2⟩ := ih (p + m) (vl ++ [[Ct.i ((m : Int) + 126)]] ++ [[Ct.i (rd x0 p 0).int]]) (by omega) (by omega) (by simp; omega)
        refine ⟨q, vl', by rw [iter_inl hst]; exact i1, ?_⟩
        rw [i2, hpr, List.drop_drop, col_app, col_app, col_cons, col_cons, col_nil]
        simp [Ct.int]
      · obtain ⟨s1, s2, s3, s4⟩ := rprs2_is (vl := vl) hl hpp
        have hk : 1 ≤ pln ((col x0).drop p) ∧ pln ((col x0).drop p) ≤ 128 ∧ p + pln ((col x0).drop p) ≤ x0.length := by
          have := pln_le (c := (rd x0 p 0).int) (t := (col x0).drop (p + 1))
          rw [← hd, List.length_drop, col_length] at this
          refine ⟨by unfold pln; omega, by omega, by omega⟩
        have hpr := prs_plain (f := f) hd h
        generalize hm : pln ((col x0).drop p) = k at *
        generalize hwl : (rprs_L2_v x0 (p : Int) vl).2 = wl at *
        have w1 : IntKind.i64.wrap ((k : Int) - 1) = (k : Int) - 1 := wrap_in (by omega) (by omega)
        have w2 : IntKind.u8.wrap ((k : Int) - 1) = (k : Int) - 1 := wrap_u8 (by omega) (by omega)
        have hst : rprs_L0_step x0 ((p : Int), vl) = some (.inl (((p + k : Nat) : Int), vl ++ [[Ct.i ((k : Int) - 1)]] ++ wl)) := by
          have q1 : ¬ (((alk ((col x0).drop p) : Nat) : Int) ≥ 3) := by omega
          simp only [rprs_L0_step, r1, r2, s1, s2, hwl, s3, cond_dec q0, cond_not q1, cond_true, w1, w2, Int.toNat_natCast]
          rw [cond_dec, cond_dec]
          · simp only [List.length_append, List.length_cons, List.length_nil]; omega
          · simp only [List.length_cons, List.length_nil]; omega
        obtain ⟨q, vl', i1, i2⟩ := ih (p + k) (vl ++ [[Ct.i ((k : Int) - 1)]] ++ wl) (by omega) (by omega) (by simp only [List.length_append, List.length_cons, List.length_nil, s3]; omega)
        refine ⟨q, vl', by rw [iter_inl hst]; exact i1, ?_⟩
        rw [i2, hpr, List.drop_drop, col_app, col_app, col_cons, col_nil, s4]
        simp only [Ct.int, List.append_assoc, List.cons_append, List.nil_append]
    · have q : ¬ ((p : Int) < (x0.length : Int)) := by omega
      refine ⟨p, vl, iter_inr ?_, ?_⟩
      · simp only [rprs_L0_step, cond_not q]
      · rw [List.drop_eq_nil_of_le (by rw [col_length]; omega), prs_nil, List.append_nil]
theorem rprs_is {x0 : List (List Ct)} (hl : x0.length ≤ 20000) : rprs_L0_p x0 = true ∧ col (rprs_v x0) = prs x0.length (col x0) := by
  obtain ⟨q, vl, h1, h2⟩ := rprs_it hl x0.length 0 [] (by omega) (by omega) (by simp)
  have e : ((0 : Nat) : Int) = (0 : Int) := rfl
  rw [e] at h1
  refine ⟨by unfold rprs_L0_p; rw [h1]; rfl, ?_⟩
  unfold rprs_v rprs_L0_v loopRes
  rw [h1]
  simpa [col_nil] using h2
end Go.Proofs.Ytcpbiijegbbafaa
