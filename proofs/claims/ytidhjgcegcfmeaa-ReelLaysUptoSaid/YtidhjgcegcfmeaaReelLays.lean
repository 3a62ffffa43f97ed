/- The law ReelLays: it answers true for all values of bulk. The bound is the statement's own. -/
import Derived.Test.YtidhjgcegcfmeaaReelLaysL
import Derived.Test.YtidhjgcegcfmeaaReelLaysT
set_option linter.unusedVariables false
set_option linter.unusedSimpArgs false
namespace Go.Proofs.Ytidhjgcegcfmeaa
open Go.RowKit

theorem fits_it {x0 : List (List Ct)} (hb : x0.length ≤ 1048576) : ∀ (d i : Nat), i + d = x0.length → ∃ r, iter (fits_L0_step x0) (d + 1) (i : Int) = some r ∧ (∀ v, r = .inl v → ∀ j, i ≤ j → j < x0.length → (rd x0 j 37).rows.length ≤ 3000) := by
  intro d
  induction d with
  | zero =>
    intro i hi
    have q : ¬ ((i : Int) < (x0.length : Int)) := by omega
    exact ⟨.inl i, iter_inr (by simp only [fits_L0_step, cond_not q]), fun v _ j h1 h2 => by omega⟩
  | succ d ih =>
    intro i hi
    have q : ((i : Int) < (x0.length : Int)) := by omega
    have q2 : ((0 : Int) ≤ (i : Int) ∧ (i : Int) < (x0.length : Int)) := by omega
    have w : IntKind.i64.wrap ((i : Int) + 1) = ((i + 1 : Nat) : Int) := by rw [wrap_in (by omega) (by omega)]; omega
    by_cases h : ((rd x0 i 37).rows.length : Int) > 3000
    · refine ⟨.inr (), iter_inr ?_, fun v h => by cases h⟩
      simp only [fits_L0_step, cond_dec q, cond_dec q2, Int.toNat_natCast, cond_dec h]
    · have hst : fits_L0_step x0 (i : Int) = some (.inl ((i + 1 : Nat) : Int)) := by
        simp only [fits_L0_step, cond_dec q, cond_dec q2, Int.toNat_natCast, cond_not h, w]
      obtain ⟨r, h1, h2⟩ := ih (i + 1) (by omega)
      refine ⟨r, by rw [iter_inl hst]; exact h1, fun v hv j h3 h4 => ?_⟩
      by_cases hj : j = i
      · subst hj; omega
      · exact h2 v hv j (by omega) h4
theorem fits_is {x0 : List (List Ct)} (hb : x0.length ≤ 1048576) : (fits_res x0).isSome = true ∧ (fits_v x0 = true → x0.length ≤ 60 ∧ ∀ j, j < x0.length → (rd x0 j 37).rows.length ≤ 3000) := by
  obtain ⟨r, h1, h2⟩ := fits_it hb x0.length 0 (by omega)
  have e : ((0 : Nat) : Int) = (0 : Int) := rfl
  rw [e] at h1
  have p1 : fits_L0_p x0 = true := by unfold fits_L0_p; rw [h1]; rfl
  have p2 : fits_L0_v x0 = r := by unfold fits_L0_v; rw [h1]; rfl
  have hv : fits_v x0 = (fits_res x0).getD default := rfl
  cases r with
  | inl v =>
    have hr : fits_res x0 = some (decide ((x0.length : Int) ≤ 60)) := by unfold fits_res; rw [p1, p2]; rfl
    rw [hv, hr]
    refine ⟨rfl, fun h => ⟨?_, fun j hj => h2 v rfl j (by omega) hj⟩⟩
    have : (x0.length : Int) ≤ 60 := of_decide_eq_true h
    omega
  | inr u =>
    have hr : fits_res x0 = some false := by unfold fits_res; rw [p1, p2]; rfl
    rw [hv, hr]
    exact ⟨rfl, fun h => by cases h⟩
theorem lrl0_it {x0 x1 : List (List Ct)} (hn : x0.length ≤ 60) (hP : ∀ j, j < x0.length → (rd x0 j 37).rows.length ≤ 3000) : ∀ (d k : Nat) (wl ml : List (List Ct)), k + d = x0.length → col wl = col ml → wl.length ≤ 3010 * k →
    ∃ a b c, iter (lrl_L0_step x0 x1) (d + 1) ((k : Int), wl, ml) = some (c, a, b) ∧ col a = col b ∧ a.length ≤ 3010 * x0.length := by
  intro d
  induction d with
  | zero =>
    intro k wl ml hk hc hl
    have q : ¬ ((k : Int) < (x0.length : Int)) := by omega
    refine ⟨wl, ml, k, iter_inr (by simp only [lrl_L0_step, cond_not q]), hc, ?_⟩
    have : k = x0.length := by omega
    rw [← this]; exact hl
  | succ d ih =>
    intro k wl ml hk hc hl
    have q : ((k : Int) < (x0.length : Int)) := by omega
    have q2 : ((0 : Int) ≤ (k : Int) ∧ (k : Int) < (x0.length : Int)) := by omega
    have w : IntKind.i64.wrap ((k : Int) + 1) = ((k + 1 : Nat) : Int) := by rw [wrap_in (by omega) (by omega)]; omega
    obtain ⟨u, v, h1, h2, h3, h4⟩ := laid_all wl ml (rd x0 k 0).int (rd x0 k 1).int (rd x0 k 2).int (rd x0 k 3).int (rd x0 k 4).int (rd x0 k 5).int (rd x0 k 6).int (rd x0 k 7).int (rd x0 k 8).int (rd x0 k 9).int (rd x0 k 10).int (rd x0 k 11).int (rd x0 k 12).int (rd x0 k 13).int (rd x0 k 14).int (rd x0 k 15).int (rd x0 k 16).int (rd x0 k 17).int (rd x0 k 18).int (rd x0 k 19).int (rd x0 k 20).int (rd x0 k 21).int (rd x0 k 22).int (rd x0 k 23).int (rd x0 k 24).int (rd x0 k 25).int (rd x0 k 26).int (rd x0 k 27).int (rd x0 k 28).int (rd x0 k 29).int (rd x0 k 30).int (rd x0 k 31).int (rd x0 k 32).int (rd x0 k 33).int (rd x0 k 34).int (rd x0 k 35).int (rd x0 k 36).int (rd x0 k 37).rows (rd x0 k 38).int hc (by omega) (hP k (by omega))
    have hst : lrl_L0_step x0 x1 ((k : Int), wl, ml) = some (.inl (((k + 1 : Nat) : Int), u, v)) := by
      simp only [lrl_L0_step, cond_dec q, cond_dec q2, Int.toNat_natCast, w, wlay_v, rlaid_v, h1, h2, Option.isSome_some, Option.getD_some, cond_true]
    obtain ⟨a, b, c, g1, g2, g3⟩ := ih (k + 1) u v (by omega) h3 (by omega)
    exact ⟨a, b, c, by rw [iter_inl hst]; exact g1, g2, g3⟩
theorem lrl2_it {x0 x1 : List (List Ct)} {n : Nat} (hn : ([] ++ (lrl_L0_v x0 x1).snd.fst : List (List Ct)).length = n) (hb : n ≤ 900000) : ∀ (d k m : Nat) (vl : List (List Ct)), k + d = n → d < m → vl.length = n → (iter (lrl_L2_step x0 x1) m ((k : Int), vl)).isSome = true := by
  intro d
  induction d with
  | zero =>
    intro k m vl hk hm hl
    obtain ⟨m, rfl⟩ : ∃ j, m = j + 1 := ⟨m - 1, by omega⟩
    have q : ¬ ((k : Int) < (n : Int)) := by omega
    rw [iter_inr (r := ((k : Int), vl)) (by simp only [lrl_L2_step, hn, cond_not q])]
    rfl
  | succ d ih =>
    intro k m vl hk hm hl
    obtain ⟨m, rfl⟩ : ∃ j, m = j + 1 := ⟨m - 1, by omega⟩
    have q : ((k : Int) < (n : Int)) := by omega
    have q2 : ((0 : Int) ≤ (k : Int) ∧ (k : Int) < (vl.length : Int)) := by omega
    have w : IntKind.i64.wrap ((k : Int) + 1) = ((k + 1 : Nat) : Int) := by rw [wrap_in (by omega) (by omega)]; omega
    have hst : ∃ r, lrl_L2_step x0 x1 ((k : Int), vl) = some (.inl (((k + 1 : Nat) : Int), vl.set k r)) := ⟨_, by simp only [lrl_L2_step, hn, cond_dec q, cond_dec q2, Int.toNat_natCast, w]; rfl⟩
    obtain ⟨r, hst⟩ := hst
    rw [iter_inl hst]
    exact ih (k + 1) m _ (by omega) (by omega) (by simp [hl])
theorem whalf_it {x1 : List (List Ct)} (hb : x1.length ≤ 1048576) : ∀ (d k : Nat) (vl : List (List Ct)), k + d = x1.length → vl.length = 2 * k → ∃ r, iter (whalf_L0_step x1) (d + 1) ((k : Int), vl) = some r ∧ r.2.length ≤ 2 * x1.length := by
  intro d
  induction d with
  | zero =>
    intro k vl hk hl
    have q : ¬ ((k : Int) < (x1.length : Int)) := by omega
    exact ⟨((k : Int), vl), iter_inr (by simp only [whalf_L0_step, cond_not q]), by show vl.length ≤ _; omega⟩
  | succ d ih =>
    intro k vl hk hl
    have q : ((k : Int) < (x1.length : Int)) := by omega
    have q2 : ((0 : Int) ≤ (k : Int) ∧ (k : Int) < (x1.length : Int)) := by omega
    have w : IntKind.i64.wrap ((k : Int) + 1) = ((k + 1 : Nat) : Int) := by rw [wrap_in (by omega) (by omega)]; omega
    have hst : ∃ a b, whalf_L0_step x1 ((k : Int), vl) = some (.inl (((k + 1 : Nat) : Int), vl ++ [a] ++ [b])) := by
      refine Exists.intro ?a (Exists.intro ?b ?h)
      case h =>
      simp only [whalf_L0_step, cond_dec q, cond_dec q2, Int.toNat_natCast, w]
      repeat' refine ob_step (by simp only [List.length_append, List.length_cons, List.length_nil]; omega) ?_
      rfl
    obtain ⟨a, b, hst⟩ := hst
    obtain ⟨r, h1, h2⟩ := ih (k + 1) (vl ++ [a] ++ [b]) (by omega) (by simp; omega)
    exact ⟨r, by rw [iter_inl hst]; exact h1, h2⟩
theorem lrl_true (x0 x1 : List (List Ct)) (h0 : x0.length ≤ 1048576) (h1 : x1.length ≤ 1048576) : lrl_res x0 x1 = some true := by
  unfold lrl_res
  obtain ⟨f1, f2⟩ := fits_is h0
  cases hf : fits_v x0 with
  | false => rw [f1]; rfl
  | true =>
    obtain ⟨hn, hP⟩ := f2 hf
    have e : ((0 : Nat) : Int) = (0 : Int) := rfl
    obtain ⟨a, b, c, g1, g2, g3⟩ := lrl0_it (x1 := x1) hn hP x0.length 0 [] [] (by omega) rfl (by simp)
    rw [e] at g1
    have p1 : lrl_L0_p x0 x1 = true := by unfold lrl_L0_p; rw [g1]; rfl
    have p2 : lrl_L0_v x0 x1 = (c, a, b) := by unfold lrl_L0_v loopRes; rw [g1]; rfl
    have q1 : lrl_L2_p x0 x1 = true := by
      unfold lrl_L2_p
      have := lrl2_it (x0 := x0) (x1 := x1) (n := a.length) (by rw [p2]; rfl) (by omega) a.length 0 1000000 ([] ++ (lrl_L0_v x0 x1).snd.fst) (by omega) (by omega) (by rw [p2]; rfl)
      rw [e] at this
      exact this
    obtain ⟨r, k1, k2⟩ := whalf_it h1 x1.length 0 [] (by omega) rfl
    rw [e] at k1
    have s1 : whalf_L0_p x1 = true := by unfold whalf_L0_p; rw [k1]; rfl
    have s2 : whalf_L0_v x1 = r := by unfold whalf_L0_v loopRes; rw [k1]; rfl
    have s3 : whalf_res x1 = some r.2 := by unfold whalf_res; rw [s1, s2]; rfl
    have s4 : whalf_v x1 = r.2 := by unfold whalf_v; rw [s3]; rfl
    have t1 : lrl_L4_p x0 x1 = true := by
      have : lrl_L4_step x0 x1 = whalf_L0_step x1 := rfl
      unfold lrl_L4_p; rw [this, k1]; rfl
    have t2 : lrl_L4_v x0 x1 = r := by
      have : lrl_L4_step x0 x1 = whalf_L0_step x1 := rfl
      unfold lrl_L4_v loopRes; rw [this, k1]; rfl
    have hs : ((strOf ([] ++ a)).toList == (strOf b).toList) = true := by rw [List.nil_append, strOf_col g2]; simp
    have hs2 : ((strOf ([] ++ r.2)).toList == (strOf ([] ++ r.2)).toList) = true := by simp
    rw [f1, p1, p2, q1, s3, s4, t1, t2]
    simp only [Bool.not_true, cond_true, cond_false, hs, hs2, Option.isSome_some]
    repeat' refine ob_step (by omega) ?_
    rfl
theorem lrl_call (x0 x1 : List (List Ct)) (h0 : x0.length ≤ 1048576) (h1 : x1.length ≤ 1048576) : CallOk Try.prog 3 [.sv (.one (.ext 0)), .sv (.one (.ext 1))] [(0, .grid [.int .i64, .int .i64, .int .i64, .int .i64, .int .i64, .int .u8, .int .u8, .int .u8, .int .u8, .int .u8, .int .u8, .int .u8, .int .u8, .int .u8, .int .u8, .int .u8, .int .u8, .int .u8, .int .u8, .int .u8, .int .u8, .int .u8, .int .u8, .int .u8, .int .u8, .int .u8, .int .u8, .int .u8, .int .u8, .int .u8, .int .u8, .int .u8, .int .u8, .int .u8, .int .u8, .int .u8, .int .u8, .sl [.int .u8], .int .i64] x0), (1, .grid [.int .i64] x1)] 2 (lrl_O true) := lrl_tree (lrl_true x0 x1 h0 h1)
end Go.Proofs.Ytidhjgcegcfmeaa
