/- Tracks to and fro, in plain numbers. No condition. -/
import Derived.Test.YtmpaelkjooahoaaTrackR2
import Derived.Test.YtmpaelkjooahoaaSortT
set_option linter.unusedVariables false
set_option linter.unusedSimpArgs false
namespace Go.Proofs.Ytmpaelkjooahoaa
open Go.RowKit

/-- Keys, cell by cell. -/
def gK (x : List (List Ct)) (k : Nat) : List Ct := [.i (rd x k 0).int, .i (rd x k 1).int, .i (rd x k 2).int, .i (rd x k 3).int]
def cK (x : List (List Ct)) : List (List Ct) := tab (gK x) x.length
theorem cK_length {x : List (List Ct)} : (cK x).length = x.length := by simp [cK, tab_length]
theorem cK_rd {x : List (List Ct)} {k : Nat} (h : k < x.length) : (rd (cK x) k 0).int = (rd x k 0).int ∧ (rd (cK x) k 1).int = (rd x k 1).int ∧ (rd (cK x) k 2).int = (rd x k 2).int ∧ (rd (cK x) k 3).int = (rd x k 3).int := by
  simp [cK, gK, rd_tab h, Ct.int]
theorem cK_twice {x : List (List Ct)} : cK (cK x) = cK x := by
  unfold cK tab
  simp only [List.length_map, List.length_range]
  apply List.map_congr_left
  intro k hk
  have h : k < x.length := by simpa using hk
  have := @cK_rd x k h
  simp only [cK, tab] at this
  simp only [gK, this]
theorem tky_L0_it {x : List (List Ct)} (hb : x.length ≤ 1048576) : iter (tky_L0_step x) (x.length + 1) (0, []) = some ((x.length : Int), cK x) := by
  refine iter_run (step := tky_L0_step x) (n := x.length) (fun k => ((k : Int), tab (gK x) k)) rfl (fun k hk' => ?_) ?_ (by omega)
  · have q : (k : Int) < (x.length : Int) := by omega
    have q2 : (0 : Int) ≤ (k : Int) ∧ (k : Int) < (x.length : Int) := by omega
    simp only [tky_L0_step, cond_dec q, cond_dec q2, wrap_succ (k := k) (by omega), Int.toNat_natCast]
    rw [cond_dec (by simp only [tab_length, List.length_cons, List.length_nil]; omega), ← tab_succ]
    rfl
  · have q : ¬ ((x.length : Int) < (x.length : Int)) := by omega
    simp only [tky_L0_step, cond_not q]
    rfl
theorem tky_L0_is {x : List (List Ct)} (hb : x.length ≤ 1048576) : tky_L0_p x = true ∧ (tky_L0_v x).2 = cK x := by
  have h := tky_L0_it hb
  exact ⟨by unfold tky_L0_p; rw [h]; rfl, by unfold tky_L0_v loopRes; rw [h]; rfl⟩
theorem tky_ok {x : List (List Ct)} (hb : x.length ≤ 1048576) : tky_res x = some (cK x) ∧ tky_v x = cK x := by
  obtain ⟨h1, h2⟩ := tky_L0_is hb
  have h : tky_res x = some (cK x) := by unfold tky_res; rw [h1, h2]; rfl
  exact ⟨h, by unfold tky_v; rw [h]; rfl⟩
theorem tfr_L0_it {x : List (List Ct)} (hb : x.length ≤ 1048576) : iter (tfr_L0_step x) (x.length + 1) (0, []) = some ((x.length : Int), cK x) := by
  refine iter_run (step := tfr_L0_step x) (n := x.length) (fun k => ((k : Int), tab (gK x) k)) rfl (fun k hk' => ?_) ?_ (by omega)
  · have q : (k : Int) < (x.length : Int) := by omega
    have q2 : (0 : Int) ≤ (k : Int) ∧ (k : Int) < (x.length : Int) := by omega
    simp only [tfr_L0_step, cond_dec q, cond_dec q2, wrap_succ (k := k) (by omega), Int.toNat_natCast]
    rw [cond_dec (by simp only [tab_length, List.length_cons, List.length_nil]; omega), ← tab_succ]
    rfl
  · have q : ¬ ((x.length : Int) < (x.length : Int)) := by omega
    simp only [tfr_L0_step, cond_not q]
    rfl
theorem tfr_L0_is {x : List (List Ct)} (hb : x.length ≤ 1048576) : tfr_L0_p x = true ∧ (tfr_L0_v x).2 = cK x := by
  have h := tfr_L0_it hb
  exact ⟨by unfold tfr_L0_p; rw [h]; rfl, by unfold tfr_L0_v loopRes; rw [h]; rfl⟩
theorem tfr_ok {w : Int} {x : List (List Ct)} (hb : x.length ≤ 1048576) : tfr_res w x = some (w, cK x) ∧ tfr_v w x = (w, cK x) := by
  obtain ⟨h1, h2⟩ := tfr_L0_is hb
  have h : tfr_res w x = some (w, cK x) := by unfold tfr_res; rw [h1, h2]; rfl
  exact ⟨h, by unfold tfr_v; rw [h]; rfl⟩
theorem rsa_L0_is {x y : List (List Ct)} (hb : x.length ≤ 1048576) (hl : y.length = x.length) (h : ∀ k, k < x.length → (rd x k 0).int = (rd y k 0).int ∧ (rd x k 1).int = (rd y k 1).int ∧ (rd x k 2).int = (rd y k 2).int ∧ (rd x k 3).int = (rd y k 3).int) : rsa_L0_p x y = true ∧ isL (rsa_L0_v x y) = true := by
  obtain ⟨r, h1, h2⟩ := iter_chk (step := rsa_L0_step x y) (n := x.length) (m := x.length + 1) (c := fun _ => True) (fun k hk => ⟨fun _ => by
    have q : (k : Int) < (x.length : Int) := by omega
    have q2 : (0 : Int) ≤ (k : Int) ∧ (k : Int) < (x.length : Int) := by omega
    have q3 : (0 : Int) ≤ (k : Int) ∧ (k : Int) < (y.length : Int) := by omega
    have e := h k hk
    simp only [rsa_L0_step, cond_dec q, cond_dec q2, cond_dec q3, Int.toNat_natCast, e, beq_self_eq_true, Bool.and_self, Bool.and_true, Bool.not_true, Bool.not_false, cond_false, wrap_succ (k := k) (by omega)]
    rfl, fun h => absurd trivial h⟩) (by
    have q : ¬ ((x.length : Int) < (x.length : Int)) := by omega
    simp only [rsa_L0_step, cond_not q]) (by omega)
  exact ⟨by unfold rsa_L0_p; rw [h1]; rfl, by unfold rsa_L0_v; rw [h1]; exact h2.2 fun _ _ => trivial⟩
theorem rsa_ok {w : Int} {x y : List (List Ct)} (hb : x.length ≤ 1048576) (hl : y.length = x.length) (h : ∀ k, k < x.length → (rd x k 0).int = (rd y k 0).int ∧ (rd x k 1).int = (rd y k 1).int ∧ (rd x k 2).int = (rd y k 2).int ∧ (rd x k 3).int = (rd y k 3).int) : rsa_res w x w y = some true ∧ rsa_v w x w y = true := by
  obtain ⟨h1, h2⟩ := rsa_L0_is hb hl h
  have h : rsa_res w x w y = some true := by
    unfold rsa_res
    rw [h1, h2, hl]
    simp
  exact ⟨h, by unfold rsa_v; rw [h]; rfl⟩
theorem kOf_cK {l : List (List Ct)} : kOf (cK l) = kOf l := by
  apply List.ext_getElem?
  intro i
  by_cases h : i < l.length
  · rw [kOf_rd (by rw [cK_length]; exact h), kOf_rd h]
    obtain ⟨e0, e1, e2, e3⟩ := cK_rd h
    rw [e0, e1, e2, e3]
  · rw [List.getElem?_eq_none (by rw [kOf_length, cK_length]; omega), List.getElem?_eq_none (by rw [kOf_length]; omega)]
/-- What is answered is the document's. -/
theorem is_ok {w : Int} {r s : List (List Ct)} (h : kOf r = kOf s) (hb : r.length ≤ 1048576) : (tfr_res w r).isSome = true ∧ (rsa_res (tfr_v w r).1 (tfr_v w r).2 w s).isSome = true ∧ rsa_v (tfr_v w r).1 (tfr_v w r).2 w s = true := by
  obtain ⟨t1, t2⟩ := tfr_ok (w := w) hb
  obtain ⟨h1, h2⟩ := kOf_same (a := cK r) (b := s) (by rw [kOf_cK, h])
  obtain ⟨r1, r2⟩ := rsa_ok (w := w) (x := cK r) (y := s) (by rw [cK_length]; exact hb) h1.symm (fun k hk => h2 k (by omega))
  rw [t1, t2, r1, r2]
  exact ⟨rfl, rfl, rfl⟩
end Go.Proofs.Ytmpaelkjooahoaa
