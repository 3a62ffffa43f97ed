/- GlanceFrames is true. No condition but what the texts' lengths are. -/
import Derived.Test.YtjjijaeoafeocaaGlTimes
import Derived.Test.YtjjijaeoafeocaaGlSame
import Derived.Test.YtjjijaeoafeocaaGlanceFramesT
set_option linter.unusedVariables false
set_option linter.unusedSimpArgs false
namespace Go.Proofs.Ytjjijaeoafeocaa
open Go.RowKit

/-- How long the longest text is so far. -/
def mxN (x0 : ByteArray) (x1 : List (List Ct)) : Nat → Nat
  | 0 => x0.size
  | k + 1 => if (rd x1 k 0).str.size > mxN x0 x1 k then (rd x1 k 0).str.size else mxN x0 x1 k
theorem mxN_ge0 (x0 : ByteArray) (x1 : List (List Ct)) : ∀ k, x0.size ≤ mxN x0 x1 k := by
  intro k
  induction k with
  | zero => exact Nat.le_refl _
  | succ k ih => simp only [mxN]; split <;> omega
theorem mxN_ge (x0 : ByteArray) (x1 : List (List Ct)) : ∀ k j, j < k → (rd x1 j 0).str.size ≤ mxN x0 x1 k := by
  intro k
  induction k with
  | zero => intro j hj; omega
  | succ k ih =>
    intro j hj
    by_cases e : j = k
    · subst e; simp only [mxN]; split <;> omega
    · have := ih j (by omega)
      simp only [mxN]; split <;> omega
theorem mxN_le {x0 : ByteArray} {x1 : List (List Ct)} (h0 : x0.size ≤ 1048576) (h : ∀ i, i < x1.length → (rd x1 i 0).str.size ≤ 1048576) : ∀ k, k ≤ x1.length → mxN x0 x1 k ≤ 1048576 := by
  intro k
  induction k with
  | zero => intro _; exact h0
  | succ k ih =>
    intro hk
    have h1 := ih (by omega)
    have h2 := h k (by omega)
    simp only [mxN]; split <;> omega
def smN (x0 : ByteArray) (x1 : List (List Ct)) : Nat → Nat
  | 0 => x0.size
  | k + 1 => smN x0 x1 k + (rd x1 k 0).str.size
theorem smN_le {x0 : ByteArray} {x1 : List (List Ct)} (h0 : x0.size ≤ 1048576) (h : ∀ i, i < x1.length → (rd x1 i 0).str.size ≤ 1048576) : ∀ k, k ≤ x1.length → smN x0 x1 k ≤ 1048576 * (k + 1) := by
  intro k
  induction k with
  | zero => intro _; simpa [smN] using h0
  | succ k ih =>
    intro hk
    have h1 := ih (by omega)
    have h2 := h k (by omega)
    simp only [smN]; omega
theorem if_cast (a b : Nat) : (if (a : Int) > (b : Int) then (a : Int) else (b : Int)) = ((if a > b then a else b : Nat) : Int) := by
  split <;> split <;> omega
theorem cif_cast (a b : Nat) : (bif decide ((a : Int) > (b : Int)) then (a : Int) else (b : Int)) = ((if a > b then a else b : Nat) : Int) := by
  by_cases h : a > b
  · rw [if_pos h]; exact cond_decI (by omega)
  · rw [if_neg h]; exact cond_notI (by omega)
section
variable {x0 : ByteArray} {x1 : List (List Ct)}
theorem gfr_one (hl : x1.length ≤ 1048576) : iter (gfr_L0_step x1) (x1.length + 1) (0, (↑x0.size : Int)) = some ((x1.length : Int), (mxN x0 x1 x1.length : Int)) := by
  refine iter_run (fun k => ((k : Int), (mxN x0 x1 k : Int))) (n := x1.length) rfl (fun k hk => ?_) ?_ (by omega)
  · simp only [gfr_L0_step]
    refine (cond_decI (by omega)).trans ?_
    refine (cond_decI (by omega)).trans ?_
    rw [wrap_succ (by omega)]
    simp only [Int.toNat_natCast, if_cast, mxN]
  · simp only [gfr_L0_step]
    exact cond_notI (by omega)
theorem rfr_one (hl : x1.length ≤ 1048576) : iter (rfr_L0_step x1) (x1.length + 1) ((↑x0.size : Int), 0) = some ((mxN x0 x1 x1.length : Int), (x1.length : Int)) := by
  refine iter_run (fun k => ((mxN x0 x1 k : Int), (k : Int))) (n := x1.length) rfl (fun k hk => ?_) ?_ (by omega)
  · simp only [rfr_L0_step]
    refine (cond_decI (by omega)).trans ?_
    refine (cond_decI (by omega)).trans ?_
    have d : decide ((0 : Int) ≤ (k : Int) ∧ (k : Int) < (x1.length : Int)) = true := decide_eq_true (by omega)
    rw [wrap_succ (by omega), d, cond_same, cond_true]
    simp only [Int.toNat_natCast, cif_cast, mxN]
  · simp only [rfr_L0_step]
    exact cond_notI (by omega)
theorem lgf_one (hl : x1.length ≤ 1048576) (h0 : x0.size ≤ 1048576) (h : ∀ i, i < x1.length → (rd x1 i 0).str.size ≤ 1048576) : iter (lgf_L0_step x1) (x1.length + 5) ((↑x0.size : Int), 0) = some ((smN x0 x1 x1.length : Int), (x1.length : Int)) := by
  refine iter_run (fun k => ((smN x0 x1 k : Int), (k : Int))) (n := x1.length) rfl (fun k hk => ?_) ?_ (by omega)
  · simp only [lgf_L0_step]
    refine (cond_decI (by omega)).trans ?_
    refine (cond_decI (by omega)).trans ?_
    have b1 := smN_le h0 h k (by omega)
    have b2 := h k hk
    rw [wrap_succ (by omega), wrap_in (by simp only [Int.toNat_natCast]; omega) (by simp only [Int.toNat_natCast]; omega)]
    simp only [Int.toNat_natCast, smN, Int.natCast_add]
  · simp only [lgf_L0_step]
    exact cond_notI (by omega)
end
/-- A line, in a frame that is w wide. -/
def lineS (w : Nat) (s : ByteArray) : ByteArray := ByteArray.mk #[(124 : UInt8), (32 : UInt8)] ++ s ++ tms 32 (w - s.size) ++ ByteArray.mk #[(32 : UInt8), (124 : UInt8)]
def edgeS (w : Nat) : ByteArray := ByteArray.mk #[(43 : UInt8)] ++ tms 45 (w + 2) ++ ByteArray.mk #[(43 : UInt8)]
theorem lineS_size {w : Nat} {s : ByteArray} (h : s.size ≤ w) : (lineS w s).size = w + 4 := by
  simp only [lineS, szA, sz2, tms_size]; omega
theorem edgeS_size {w : Nat} : (edgeS w).size = w + 4 := by
  simp only [edgeS, szA, sz1, tms_size]; omega
def base3 (x0 : ByteArray) (w : Nat) : List (List Ct) := [[.s (edgeS w)], [.s (lineS w x0)], [.s (edgeS w)]]
def outR (x0 : ByteArray) (x1 : List (List Ct)) (w n : Nat) : List (List Ct) := base3 x0 w ++ tab (fun j => [.s (lineS w (rd x1 j 0).str)]) n
theorem outR_length (x0 : ByteArray) (x1 : List (List Ct)) (w n : Nat) : (outR x0 x1 w n).length = n + 3 := by simp only [outR, base3, List.length_append, List.length_cons, List.length_nil, tab_length]; omega
theorem outR_succ (x0 : ByteArray) (x1 : List (List Ct)) (w n : Nat) : outR x0 x1 w n ++ [[.s (lineS w (rd x1 n 0).str)]] = outR x0 x1 w (n + 1) := by
  unfold outR
  rw [List.append_assoc, tab_succ]
theorem wrap_sub {w s : Nat} (h : s ≤ w) (hw : w ≤ 1048576) : IntKind.i64.wrap ((w : Int) - (s : Int)) = ((w - s : Nat) : Int) := by rw [wrap_in (by omega) (by omega)]; omega
theorem wrap_two {w : Nat} (hw : w ≤ 1048576) : IntKind.i64.wrap ((w : Int) + (2 : Int)) = ((w + 2 : Nat) : Int) := by rw [wrap_in (by omega) (by omega)]; omega
theorem one_and {a : UInt8} {n : Nat} (h : 0 ≤ n) (h' : n ≤ 140737488355328) : (ByteArray.mk #[a]).size = 1 ∧ (0 : Int) ≤ (n : Int) ∧ (n : Int) ≤ (140737488355328 : Int) := ⟨rfl, by omega, by omega⟩
section
variable {x0 : ByteArray} {x1 : List (List Ct)} (hl : x1.length ≤ 1048576) (h0 : x0.size ≤ 1048576) (h : ∀ i, i < x1.length → (rd x1 i 0).str.size ≤ 1048576)
include hl h0 h
omit h0 in
theorem gfr_two {w : Nat} (v : gfr_L0_v x0 x1 = ((x1.length : Int), (w : Int))) (hw : w ≤ 1048576) (g : ∀ j, j < x1.length → (rd x1 j 0).str.size ≤ w) : iter (gfr_L2_step x0 x1) (x1.length + 1) (0, base3 x0 w) = some ((x1.length : Int), outR x0 x1 w x1.length) := by
  refine iter_run (fun k => ((k : Int), outR x0 x1 w k)) (n := x1.length) (by simp [outR, tab]) (fun k hk => ?_) ?_ (by omega)
  · have gk := g k hk
    have hk' := h k hk
    simp only [gfr_L2_step, v, Int.toNat_natCast, wrap_sub gk hw, gd1, gd2, times_nat]
    refine (cond_decI (by omega)).trans ?_
    refine (cond_decI (by omega)).trans ?_
    refine (cond_decI (by simp only [sz2]; omega)).trans ?_
    refine (cond_decI (one_and (by omega) (by omega))).trans ?_
    refine (cond_decI (by simp only [szA, sz2, tms_size]; omega)).trans ?_
    refine (cond_decI (by simp only [szA, sz2, tms_size]; omega)).trans ?_
    refine (cond_decI (by simp only [outR_length, List.length_cons, List.length_nil]; omega)).trans ?_
    rw [wrap_succ (by omega)]
    exact congrArg (fun z => some (Sum.inl (((k + 1 : Nat) : Int), z))) (outR_succ x0 x1 w k)
  · simp only [gfr_L2_step]
    exact cond_notI (by omega)
omit h0 in
theorem gfr_two' {w : Nat} (v : gfr_L0_v x0 x1 = ((x1.length : Int), (w : Int))) (hw : w ≤ 1048576) (g0 : x0.size ≤ w) (g : ∀ j, j < x1.length → (rd x1 j 0).str.size ≤ w) : gfr_L2_p x0 x1 = true ∧ gfr_L2_v x0 x1 = ((x1.length : Int), outR x0 x1 w x1.length) := by
  have j := gfr_two hl h v hw g
  have e1 : timesS ((ByteArray.mk #[(45 : UInt8)]).data.toList.getD 0 (0 : UInt8)) (IntKind.i64.wrap ((gfr_L0_v x0 x1).snd + (2 : Int))) = tms 45 (w + 2) := by rw [v, gd1, wrap_two hw, times_nat]
  have e2 : timesS ((ByteArray.mk #[(32 : UInt8)]).data.toList.getD 0 (0 : UInt8)) (IntKind.i64.wrap ((gfr_L0_v x0 x1).snd - (↑x0.size : Int))) = tms 32 (w - x0.size) := by rw [v, gd1, wrap_sub g0 hw, times_nat]
  constructor
  · unfold gfr_L2_p
    rw [e1, e2]
    exact congrArg Option.isSome j
  · unfold gfr_L2_v loopRes
    rw [e1, e2]
    exact congrArg (fun o => Option.getD o default) j
theorem gfr_is : gfr_res x0 x1 = some (outR x0 x1 (mxN x0 x1 x1.length) x1.length ++ [[.s (edgeS (mxN x0 x1 x1.length))]]) := by
  have i := gfr_one (x0 := x0) hl
  have p : gfr_L0_p x0 x1 = true := by unfold gfr_L0_p; rw [i]; rfl
  have v : gfr_L0_v x0 x1 = ((x1.length : Int), (mxN x0 x1 x1.length : Int)) := by unfold gfr_L0_v loopRes; rw [i]; rfl
  have hw := mxN_le h0 h x1.length (Nat.le_refl _)
  have g0 := mxN_ge0 x0 x1 x1.length
  have g := mxN_ge x0 x1 x1.length
  generalize mxN x0 x1 x1.length = w at *
  obtain ⟨p2, v2⟩ := gfr_two' hl h v hw g0 g
  have e1 : timesS ((ByteArray.mk #[(45 : UInt8)]).data.toList.getD 0 (0 : UInt8)) (IntKind.i64.wrap ((gfr_L0_v x0 x1).snd + (2 : Int))) = tms 45 (w + 2) := by rw [v, gd1, wrap_two hw, times_nat]
  have e2 : timesS ((ByteArray.mk #[(32 : UInt8)]).data.toList.getD 0 (0 : UInt8)) (IntKind.i64.wrap ((gfr_L0_v x0 x1).snd - (↑x0.size : Int))) = tms 32 (w - x0.size) := by rw [v, gd1, wrap_sub g0 hw, times_nat]
  have e3 : IntKind.i64.wrap ((gfr_L0_v x0 x1).snd + (2 : Int)) = ((w + 2 : Nat) : Int) := by rw [v, wrap_two hw]
  have e4 : IntKind.i64.wrap ((gfr_L0_v x0 x1).snd - (↑x0.size : Int)) = ((w - x0.size : Nat) : Int) := by rw [v, wrap_sub g0 hw]
  unfold gfr_res
  rw [p, p2, v2, e1, e2, e3, e4]
  refine (cond_true _ _).trans ?_
  refine (cond_decI (one_and (by omega) (by omega))).trans ?_
  refine (cond_decI (by simp only [szA, sz1, tms_size]; omega)).trans ?_
  refine (cond_decI (by simp only [szA, sz1, tms_size]; omega)).trans ?_
  refine (cond_decI (by simp only [szA, sz2, tms_size]; omega)).trans ?_
  refine (cond_decI (one_and (by omega) (by omega))).trans ?_
  refine (cond_decI (by simp only [szA, sz2, tms_size]; omega)).trans ?_
  refine (cond_decI (by simp only [szA, sz2, tms_size]; omega)).trans ?_
  refine (cond_true _ _).trans ?_
  refine (cond_decI (by simp only [outR_length, List.length_cons, List.length_nil]; omega)).trans ?_
  rfl
theorem rfr_is : rfr_res x0 x1 = some (outR x0 x1 (mxN x0 x1 x1.length) x1.length ++ [[.s (edgeS (mxN x0 x1 x1.length))]]) := by
  have i := rfr_one (x0 := x0) hl
  have p : rfr_L0_p x0 x1 = true := by unfold rfr_L0_p; rw [i]; rfl
  have v : rfr_L0_v x0 x1 = ((mxN x0 x1 x1.length : Int), (x1.length : Int)) := by unfold rfr_L0_v loopRes; rw [i]; rfl
  have hw := mxN_le h0 h x1.length (Nat.le_refl _)
  have g0 := mxN_ge0 x0 x1 x1.length
  have g := mxN_ge x0 x1 x1.length
  generalize mxN x0 x1 x1.length = w at *
  have c1 : rfr_c98323965 x0 x1 = tms 45 (w + 2) := by unfold rfr_c98323965; rw [v, wrap_two hw, tim_vis _ _ (by omega)]; rfl
  have c2 : rfr_c88574639 x0 x1 = tms 32 (w - x0.size) := by unfold rfr_c88574639; rw [v, wrap_sub g0 hw, tim_vis _ _ (by omega)]; rfl
  have c3 : ∀ k : Nat, k < x1.length → rfr_c70118443 x0 x1 (k : Int) = tms 32 (w - (rd x1 k 0).str.size) := by intro k hk; unfold rfr_c70118443; rw [v, Int.toNat_natCast, wrap_sub (g k hk) hw, tim_vis _ _ (by omega)]; rfl
  have j : iter (rfr_L2_step x0 x1) (x1.length + 1) (0, base3 x0 w) = some ((x1.length : Int), outR x0 x1 w x1.length) := by
    refine iter_run (fun k => ((k : Int), outR x0 x1 w k)) (n := x1.length) (by simp [outR, tab]) (fun k hk => ?_) ?_ (by omega)
    · have gk := g k hk
      have hk' := h k hk
      have tk := tim_is 32 (w - (rd x1 k 0).str.size) (by omega)
      simp only [rfr_L2_step, v, c3 k hk, Int.toNat_natCast, wrap_sub gk hw, tk, Option.isSome_some, cond_true]
      refine (cond_decI (by omega)).trans ?_
      refine (cond_decI (by omega)).trans ?_
      refine (cond_decI (by simp only [sz2]; omega)).trans ?_
      refine (cond_decI (by omega)).trans ?_
      refine (cond_decI (by simp only [szA, sz2, tms_size]; omega)).trans ?_
      refine (cond_decI (by simp only [szA, sz2, tms_size]; omega)).trans ?_
      refine (cond_decI (by simp only [outR_length, List.length_cons, List.length_nil]; omega)).trans ?_
      rw [wrap_succ (by omega)]
      exact congrArg (fun z => some (Sum.inl (((k + 1 : Nat) : Int), z))) (outR_succ x0 x1 w k)
    · simp only [rfr_L2_step]
      exact cond_notI (by omega)
  have b3 : ([[Ct.s (ByteArray.mk #[(43 : UInt8)] ++ tms 45 (w + 2) ++ ByteArray.mk #[(43 : UInt8)])], [Ct.s (ByteArray.mk #[(124 : UInt8), (32 : UInt8)] ++ x0 ++ tms 32 (w - x0.size) ++ ByteArray.mk #[(32 : UInt8), (124 : UInt8)])], [Ct.s (ByteArray.mk #[(43 : UInt8)] ++ tms 45 (w + 2) ++ ByteArray.mk #[(43 : UInt8)])]] : List (List Ct)) = base3 x0 w := rfl
  have p2 : rfr_L2_p x0 x1 = true := by
    unfold rfr_L2_p
    simp only [c1, c2, b3, j]
    rfl
  have v2 : rfr_L2_v x0 x1 = ((x1.length : Int), outR x0 x1 w x1.length) := by
    unfold rfr_L2_v loopRes
    simp only [c1, c2, b3, j]
    rfl
  simp only [rfr_res, p, p2, v, v2, c1, c2, wrap_two hw, wrap_sub g0 hw, tim_is 45 (w + 2) (by omega), tim_is 32 (w - x0.size) (by omega), Option.isSome_some, cond_true]
  refine (cond_decI (by simp only [szA, sz1, tms_size]; omega)).trans ?_
  refine (cond_decI (by simp only [szA, sz1, tms_size]; omega)).trans ?_
  refine (cond_decI (by simp only [szA, sz2, tms_size]; omega)).trans ?_
  refine (cond_decI (by simp only [szA, sz2, tms_size]; omega)).trans ?_
  refine (cond_decI (by simp only [szA, sz2, tms_size]; omega)).trans ?_
  refine (cond_decI (by simp only [outR_length, List.length_cons, List.length_nil]; omega)).trans ?_
  rfl
end
theorem all_size {x0 : ByteArray} {x1 : List (List Ct)} {w : Nat} (g0 : x0.size ≤ w) (g : ∀ j, j < x1.length → (rd x1 j 0).str.size ≤ w) : ∀ k, k < x1.length + 4 → (rd (outR x0 x1 w x1.length ++ [[.s (edgeS w)]]) k 0).str.size = w + 4 := by
  intro k hk
  match k, hk with
  | 0, _ => exact edgeS_size
  | 1, _ => exact lineS_size g0
  | 2, _ => exact edgeS_size
  | k + 3, hk =>
    show (rd (tab (fun j => [.s (lineS w (rd x1 j 0).str)]) x1.length ++ [[.s (edgeS w)]]) k 0).str.size = w + 4
    by_cases e : k < x1.length
    · have : rd (tab (fun j => [.s (lineS w (rd x1 j 0).str)]) x1.length ++ [[.s (edgeS w)]]) k 0 = .s (lineS w (rd x1 k 0).str) := by
        simp [rd, tab, List.getD_eq_getElem?_getD, List.getElem?_append_left, e]
      rw [this]
      exact lineS_size (g k e)
    · have e' : k = x1.length := by omega
      have : rd (tab (fun j => [.s (lineS w (rd x1 j 0).str)]) x1.length ++ [[.s (edgeS w)]]) k 0 = .s (edgeS w) := by
        simp [rd, tab, List.getD_eq_getElem?_getD, List.getElem?_append_right, e']
      rw [this]
      exact edgeS_size
theorem lgf_true (x0 : ByteArray) (x1 : List (List Ct)) (hl : x1.length ≤ 1048576) (h0 : x0.size ≤ 1048576) (h : ∀ i, i < x1.length → (rd x1 i 0).str.size ≤ 1048576) : lgf_res x0 x1 = some true := by
  have i := lgf_one hl h0 h
  have p : lgf_L0_p x0 x1 = true := by unfold lgf_L0_p; rw [i]; rfl
  have v : lgf_L0_v x0 x1 = ((smN x0 x1 x1.length : Int), (x1.length : Int)) := by unfold lgf_L0_v loopRes; rw [i]; rfl
  have a := gfr_is hl h0 h
  have b := rfr_is hl h0 h
  have av : gfr_v x0 x1 = outR x0 x1 (mxN x0 x1 x1.length) x1.length ++ [[.s (edgeS (mxN x0 x1 x1.length))]] := by unfold gfr_v; rw [a]; rfl
  have bv : rfr_v x0 x1 = outR x0 x1 (mxN x0 x1 x1.length) x1.length ++ [[.s (edgeS (mxN x0 x1 x1.length))]] := by unfold rfr_v; rw [b]; rfl
  have g0 := mxN_ge0 x0 x1 x1.length
  have g := mxN_ge x0 x1 x1.length
  have sz := all_size g0 g
  generalize mxN x0 x1 x1.length = w at *
  have ln : (outR x0 x1 w x1.length ++ [[Ct.s (edgeS w)]]).length = x1.length + 4 := by simp only [List.length_append, outR_length, List.length_cons, List.length_nil]
  generalize outR x0 x1 w x1.length ++ [[Ct.s (edgeS w)]] = L at *
  have i2 : iter (lgf_L2_step x0 x1) (x1.length + 5) 0 = some (match findB (fun _ => false) (x1.length + 4) 0 with | some i => .inr ((fun _ => ()) i) | none => .inl ((x1.length + 4 : Nat) : Int)) := by
    refine iter_find (fun _ => false) (fun _ => ()) (fun k hk => ?_) ?_ (by omega)
    · simp only [lgf_L2_step, av, ln]
      refine (cond_decI (by omega)).trans ?_
      refine (cond_decI (by omega)).trans ?_
      refine (cond_decI (by omega)).trans ?_
      rw [wrap_succ (by omega), Int.toNat_natCast, sz k hk, show Int.toNat (0 : Int) = 0 from rfl, sz 0 (by omega)]
      simp
    · simp only [lgf_L2_step, av, ln]
      exact cond_notI (by omega)
  rw [findB_none.2 (fun _ _ _ => rfl)] at i2
  have p2 : lgf_L2_p x0 x1 = true := by unfold lgf_L2_p; rw [i2]; rfl
  have v2 : lgf_L2_v x0 x1 = .inl ((x1.length + 4 : Nat) : Int) := by unfold lgf_L2_v; rw [i2]; rfl
  have cs : lgf_c5278249 x0 x1 = true := by unfold lgf_c5278249; rw [av, bv]; exact sam_vrefl L (by omega)
  simp only [lgf_res, p, v, a, b, av, bv, p2, v2, cs, sam_refl L (by omega), ln, isL, Option.isSome_some, cond_true, Bool.and_self]
  rw [wrap_in (by omega) (by omega)]
  have e : (((x1.length + 4 : Nat) : Int) == (x1.length : Int) + 4) = true := by simp
  rw [e, cond_same]
theorem lgf_call (x0 : ByteArray) (x1 : List (List Ct)) (h0 : CtB 1048576 8 .str (.s x0)) (hl : x1.length ≤ 1048576) (h : ∀ i, i < x1.length → ∀ (j : Nat) s, [Sh.str][j]? = some s → CtB 1048576 7 s (rd x1 i j)) : CallOk Try.prog 3 [.sv (.one (.val false (.string x0))), .sv (.one (.ext 0))] [(0, .grid [.str] x1)] 1 (lgf_O true) :=
  lgf_tree (lgf_true x0 x1 hl h0 fun i hi => h i hi 0 _ rfl)
end Go.Proofs.Ytjjijaeoafeocaa
