/- Trees: a pass over the nodes. No condition. -/
import Derived.Test.YtpfaejbdbdjhhaaTrH1
set_option linter.unusedVariables false
set_option linter.unusedSimpArgs false
namespace Go.Proofs.Ytpfaejbdbdjhhaa
open Go.RowKit

/-- A number of a list of numbers, as rows. -/
abbrev vl (s : List (List Ct)) (i : Nat) : Int := (rd s i 0).int
theorem vl_inc {s : List (List Ct)} {p : Nat} (hp : p < s.length) (v : Int) (i : Nat) : vl (s.set p (updRow 1 0 [Ct.i v] (s.getD p []))) i = if i = p then v else vl s i := by
  unfold vl
  rw [rd_set hp]
  by_cases h : i = p
  · rw [if_pos h, if_pos h]; rfl
  · rw [if_neg h, if_neg h]
/-- What stands in a law's call. -/
structure Scene (x0 OO NN : List (List Ct)) : Prop where
  c : lth_c25082182 x0 = (OO, NN)
  q : (lpa_v x0).length = x0.length
  nn : NN.length ≤ 1000
  oo : OO.length ≤ 1000
theorem count_take (l : List Int) (k : Nat) (i : Int) : (l.take k).count i ≤ k := by
  have := List.count_le_length (a := i) (l := l.take k)
  have h2 : (l.take k).length ≤ k := by rw [List.length_take]; omega
  omega
theorem l2_runs {x0 OO NN : List (List Ct)} (sc : Scene x0 OO NN) {base first : Nat} {l : List Int} {seen : List (List Ct)} (hl : l.length ≤ 128) (h14 : (rd NN base 14).int = (first : Int)) (h15 : (rd NN base 15).int = (l.length : Int)) (ho : first + l.length ≤ OO.length)
    (he : ∀ k, k < l.length → (rd OO (first + k) 0).int = l.getD k 0) (hr : ∀ i ∈ l, 0 ≤ i ∧ i < (x0.length : Int)) (hs : seen.length = x0.length) (hb : ∀ i, 0 ≤ vl seen i ∧ vl seen i ≤ 1000) (hh : ∀ k, k < l.length → lth_c92067869 x0 (base : Int) (k : Int) = true) :
    ∃ seen', iter (lth_L2_step x0 (base : Int)) 1000 (0, seen) = some (.inl ((l.length : Int), seen')) ∧ seen'.length = seen.length ∧ ∀ i : Nat, vl seen' i = vl seen i + (l.count (i : Int) : Int) := by
  have w : IntKind.i64.wrap ((first : Int) + (l.length : Int)) = ((first + l.length : Nat) : Int) := by rw [wrap_in (by have := sc.oo; omega) (by have := sc.oo; omega)]; omega
  have pl : (partOf OO (first : Int) ((first + l.length : Nat) : Int)).length = l.length := by rw [part_length ho]; omega
  have pe : ∀ k, k < l.length → (rd (partOf OO (first : Int) ((first + l.length : Nat) : Int)) k 0).int = l.getD k 0 := fun k hk => by
    rw [rd_part (by simp only [Int.toNat_natCast]; omega), Int.toNat_natCast, he k hk]
  have it := iter_range (step := lth_L2_step x0 (base : Int)) (A := List (List Ct)) (fun k a => ((k : Int), a)) (fun k a => a.length = seen.length ∧ ∀ i : Nat, vl a i = vl seen i + ((l.take k).count (i : Int) : Int)) (f := fun k a => a.set (l.getD k 0).toNat (updRow 1 0 [Ct.i (IntKind.i64.wrap ((rd a (l.getD k 0).toNat 0).int + (1 : Int)))] (a.getD (l.getD k 0).toNat []))) (out := fun a => (Sum.inl ((l.length : Int), a) : (Int × List (List Ct)) ⊕ Unit)) (n := l.length) (m := 1000) (v := ((0 : Int), seen)) (a0 := seen)
    rfl (by omega)
    (fun k hk a ha => by
      have hx := hr _ (getD_mem hk)
      have hp := pe k hk
      have hhk := hh k hk
      have q1 : (k : Int) < (l.length : Int) := by omega
      have q2 : (0 : Int) ≤ (k : Int) ∧ (k : Int) < (l.length : Int) := ⟨by omega, q1⟩
      have tk := take_snoc hk
      have hcnt := count_take l k
      obtain ⟨x, hx0⟩ : ∃ x : Nat, l.getD k 0 = (x : Int) := ⟨(l.getD k 0).toNat, by omega⟩
      rw [hx0] at hx hp tk ⊢
      have n1 : ¬ (x : Int) < 0 := by omega
      have n2 : ¬ (x : Int) ≥ (x0.length : Int) := by omega
      have q3 : (0 : Int) ≤ (x : Int) ∧ (x : Int) < ((lpa_v x0).length : Int) := by rw [sc.q]; exact hx
      have q4 : (0 : Int) ≤ (x : Int) ∧ (x : Int) < (a.length : Int) := by rw [ha.1, hs]; exact hx
      have hxl : x < a.length := by rw [ha.1, hs]; omega
      have hv : vl a x = vl seen x + ((l.take k).count (x : Int) : Int) := ha.2 x
      have hbx := hb x
      have hcx := hcnt (x : Int)
      have ww : IntKind.i64.wrap ((rd a x 0).int + 1) = vl a x + 1 := wrap_in (by have : (rd a x 0).int = vl a x := rfl; omega) (by have : (rd a x 0).int = vl a x := rfl; omega)
      simp only [Int.toNat_natCast]
      refine ⟨?_, ?_, fun i => ?_⟩
      · simp only [lth_L2_step, sc.c, Int.toNat_natCast, h14, h15, w, pl, hp, hhk, cond_dec q1, cond_dec q2, cond_not n1, cond_not n2, decide_eq_true q3, Bool.not_true, cond_true, cond_false, cond_dec q4, wrap_succ (k := k) (by omega)]
      · rw [List.length_set]; exact ha.1
      · rw [vl_inc hxl, ww, tk, List.count_append, List.count_cons, List.count_nil]
        by_cases h : i = x
        · subst h
          rw [if_pos rfl, hv]
          simp
          omega
        · rw [if_neg h, ha.2 i]
          have : ((x : Int) == (i : Int)) = false := by rw [beq_eq_false_iff_ne]; omega
          simp [this])
    (fun a ha => by
      simp only [lth_L2_step, sc.c, Int.toNat_natCast, h14, h15, w, pl]
      rw [cond_not (by omega)]) ⟨rfl, fun i => by simp⟩
  refine ⟨_, it, ?_⟩
  have inv : ∀ n, n ≤ l.length → (nfold (fun k a => a.set (l.getD k 0).toNat (updRow 1 0 [Ct.i (IntKind.i64.wrap ((rd a (l.getD k 0).toNat 0).int + (1 : Int)))] (a.getD (l.getD k 0).toNat []))) n seen).length = seen.length ∧ ∀ i : Nat, vl (nfold (fun k a => a.set (l.getD k 0).toNat (updRow 1 0 [Ct.i (IntKind.i64.wrap ((rd a (l.getD k 0).toNat 0).int + (1 : Int)))] (a.getD (l.getD k 0).toNat []))) n seen) i = vl seen i + ((l.take n).count (i : Int) : Int) := by
    intro n
    induction n with
    | zero => intro _; exact ⟨rfl, fun i => by simp [nfold]⟩
    | succ n ih =>
      intro hn
      have ha := ih (by omega)
      simp only [nfold]
      generalize nfold (fun k a => a.set (l.getD k 0).toNat (updRow 1 0 [Ct.i (IntKind.i64.wrap ((rd a (l.getD k 0).toNat 0).int + (1 : Int)))] (a.getD (l.getD k 0).toNat []))) n seen = a at *
      have hk : n < l.length := by omega
      have hx := hr _ (getD_mem hk)
      have tk := take_snoc hk
      have hcnt := count_take l n
      obtain ⟨x, hx0⟩ : ∃ x : Nat, l.getD n 0 = (x : Int) := ⟨(l.getD n 0).toNat, by omega⟩
      rw [hx0] at hx tk ⊢
      have hxl : x < a.length := by rw [ha.1, hs]; omega
      have hv : vl a x = vl seen x + ((l.take n).count (x : Int) : Int) := ha.2 x
      have hbx := hb x
      have hcx := hcnt (x : Int)
      have ww : IntKind.i64.wrap ((rd a x 0).int + 1) = vl a x + 1 := wrap_in (by have : (rd a x 0).int = vl a x := rfl; omega) (by have : (rd a x 0).int = vl a x := rfl; omega)
      simp only [Int.toNat_natCast]
      refine ⟨by rw [List.length_set]; exact ha.1, fun i => ?_⟩
      rw [vl_inc hxl, ww, tk, List.count_append, List.count_cons, List.count_nil]
      by_cases h : i = x
      · subst h
        rw [if_pos rfl, hv]
        simp
        omega
      · rw [if_neg h, ha.2 i]
        have : ((x : Int) == (i : Int)) = false := by rw [beq_eq_false_iff_ne]; omega
        simp [this]
  have := inv l.length (Nat.le_refl _)
  rw [List.take_length] at this
  exact this
end Go.Proofs.Ytpfaejbdbdjhhaa
