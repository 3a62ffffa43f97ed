/- A film's lines. No condition but what shapes and flows are. -/
import Derived.Test.YtjjijaeoafeocaaGlLet
set_option linter.unusedVariables false
set_option linter.unusedSimpArgs false
namespace Go.Proofs.Ytjjijaeoafeocaa
open Go.RowKit

noncomputable def sL (S : List (List Ct)) (W y x : Nat) : Int := shL (rd S (y * W + x) 0).int
noncomputable def fL' (F : List (List Ct)) (W y x : Nat) : Int := bif decide ((rd F (y * W + x) 0).int < (0 : Int)) then (46 : Int) else refA (IntKind.i64.wrap ((rd F (y * W + x) 0).int.tmod (W : Int) - (x : Int))) (IntKind.i64.wrap (IntKind.i64.wrap ((rd F (y * W + x) 0).int.tdiv (W : Int)) - (y : Int)))
noncomputable def rowG (g : Nat → Nat → Int) (y n : Nat) : List (List Ct) := tab (fun x => [.i (g y x)]) n
noncomputable def linesG (g : Nat → Nat → Int) (W n : Nat) : List (List Ct) := tab (fun y => [.s (strOf (rowG g y W))]) n
theorem rowG_snoc {g : Nat → Nat → Int} {y k : Nat} {c : Int} (h : g y k = c) : rowG g y k ++ [[.i c]] = rowG g y (k + 1) := by
  rw [← h]; exact tab_succ _ k
theorem rowG_len (g : Nat → Nat → Int) (y n : Nat) : (rowG g y n).length = n := tab_length _ _
section
variable {F : List (List Ct)} {W H : Nat} (w0 : 1 ≤ W) (w1 : W ≤ 64) (h1 : H ≤ 64) (hl : F.length = W * H)
include w0 w1 h1 hl
theorem fl_ok {y x : Nat} (hy : y < H) (hx : x < W) {k : Int} (k0 : 0 ≤ k) (k1 : k < (W : Int) * (H : Int)) :
    (0 ≤ arwI (sid_v (IntKind.i64.wrap (k.tdiv (W : Int))) (y : Int)) (sid_v (k.tmod (W : Int)) (x : Int)) ∧ arwI (sid_v (IntKind.i64.wrap (k.tdiv (W : Int))) (y : Int)) (sid_v (k.tmod (W : Int)) (x : Int)) < 9) ∧
    arwL (sid_v (IntKind.i64.wrap (k.tdiv (W : Int))) (y : Int)) (sid_v (k.tmod (W : Int)) (x : Int)) = refA (IntKind.i64.wrap (k.tmod (W : Int) - (x : Int))) (IntKind.i64.wrap (IntKind.i64.wrap (k.tdiv (W : Int)) - (y : Int))) := by
  have b : W * H ≤ 64 * 64 := Nat.mul_le_mul w1 h1
  have m : (W : Int) * (H : Int) = ((W * H : Nat) : Int) := (Int.natCast_mul W H).symm
  obtain ⟨n, rfl⟩ : ∃ n : Nat, k = n := ⟨k.toNat, by omega⟩
  have d1 : (n : Int).tdiv (W : Int) = ((n / W : Nat) : Int) := rfl
  have d2 : (n : Int).tmod (W : Int) = ((n % W : Nat) : Int) := rfl
  have l1 : n / W ≤ n := Nat.div_le_self _ _
  have l2 : n % W < W := Nat.mod_lt _ (by omega)
  have wr : ∀ z : Nat, z ≤ n → IntKind.i64.wrap (z : Int) = (z : Int) := fun z hz => wrap_in (by omega) (by omega)
  rw [d1, d2, wr _ l1]
  generalize n / W = p at *
  generalize n % W = q at *
  exact arrow_ok (by omega) (by omega) (by omega) (by omega) (by omega) (by omega) (by omega) (by omega)
end
theorem gsh_row {D : List (List Ct)} {W H : Nat} (w0 : 1 ≤ W) (w1 : W ≤ 64) (h1 : H ≤ 64) (hl : D.length = W * H) {y : Nat} (hy : y < H) : iter (gsh_L2_step (W : Int) D (y : Int)) 5001 none = some (.inr (((W - 1 : Nat) : Int), (W : Int), ((W - 1 : Nat) : Int), rowG (sL D W) y W)) := by
  obtain ⟨w, rfl⟩ : ∃ w, W = w + 1 := ⟨W - 1, by omega⟩
  refine iter_run (fun k => match k with | 0 => none | k + 1 => some ((k : Int), ((k + 1 : Nat) : Int), (k : Int), rowG (sL D (w + 1)) y (k + 1))) (n := w + 1) rfl (fun k hk => ?_) ?_ (by omega)
  · cases k with
    | zero =>
      obtain ⟨e1, e2⟩ := at_ok (x := 0) w1 h1 hl hy (by omega)
      have e1' : IntKind.i64.wrap (IntKind.i64.wrap ((y : Int) * ((w + 1 : Nat) : Int)) + (0 : Int)) = ((y * (w + 1) + 0 : Nat) : Int) := e1
      simp only [gsh_L2_step, e1', Int.toNat_natCast]
      refine (cond_decI (by omega)).trans ?_
      refine (cond_decI (by omega)).trans ?_
      by_cases c0 : (rd D (y * (w + 1) + 0) 0).int < 0
      · refine (cond_decI c0).trans ?_
        refine (cond_decI (by simp only [rowG_len, List.length_cons, List.length_nil]; omega)).trans ?_
        exact congrArg (fun z => some (Sum.inl (some (0, 1, 0, z)))) (rowG_snoc (g := sL D (w + 1)) (y := y) (k := 0) (shL_neg c0))
      · refine (cond_notI c0).trans ?_
        by_cases c1 : (rd D (y * (w + 1) + 0) 0).int < 36
        · refine (cond_decI c1).trans ?_
          refine (cond_decI ⟨by omega, c1⟩).trans ?_
          refine (cond_decI (by simp only [rowG_len, List.length_cons, List.length_nil]; omega)).trans ?_
          exact congrArg (fun z => some (Sum.inl (some (0, 1, 0, z)))) (rowG_snoc (g := sL D (w + 1)) (y := y) (k := 0) (dig_ok (by omega) c1).symm)
        · refine (cond_notI c1).trans ?_
          refine (cond_decI (by simp only [rowG_len, List.length_cons, List.length_nil]; omega)).trans ?_
          exact congrArg (fun z => some (Sum.inl (some (0, 1, 0, z)))) (rowG_snoc (g := sL D (w + 1)) (y := y) (k := 0) (shL_big c1))
    | succ k =>
      obtain ⟨e1, e2⟩ := at_ok (x := (k + 1)) w1 h1 hl hy (by omega)
      have e1' : IntKind.i64.wrap (IntKind.i64.wrap ((y : Int) * ((w + 1 : Nat) : Int)) + ((k + 1 : Nat) : Int)) = ((y * (w + 1) + (k + 1) : Nat) : Int) := e1
      simp only [gsh_L2_step, e1', Int.toNat_natCast]
      refine (cond_decI (by omega)).trans ?_
      refine (cond_decI (by omega)).trans ?_
      by_cases c0 : (rd D (y * (w + 1) + (k + 1)) 0).int < 0
      · refine (cond_decI c0).trans ?_
        refine (cond_decI (by simp only [rowG_len, List.length_cons, List.length_nil]; omega)).trans ?_
        rw [wrap_succ (by omega)]
        exact congrArg (fun z => some (Sum.inl (some (((k + 1 : Nat) : Int), ((k + 1 + 1 : Nat) : Int), ((k + 1 : Nat) : Int), z)))) (rowG_snoc (g := sL D (w + 1)) (y := y) (k := (k + 1)) (shL_neg c0))
      · refine (cond_notI c0).trans ?_
        by_cases c1 : (rd D (y * (w + 1) + (k + 1)) 0).int < 36
        · refine (cond_decI c1).trans ?_
          refine (cond_decI ⟨by omega, c1⟩).trans ?_
          refine (cond_decI (by simp only [rowG_len, List.length_cons, List.length_nil]; omega)).trans ?_
          rw [wrap_succ (by omega)]
          exact congrArg (fun z => some (Sum.inl (some (((k + 1 : Nat) : Int), ((k + 1 + 1 : Nat) : Int), ((k + 1 : Nat) : Int), z)))) (rowG_snoc (g := sL D (w + 1)) (y := y) (k := (k + 1)) (dig_ok (by omega) c1).symm)
        · refine (cond_notI c1).trans ?_
          refine (cond_decI (by simp only [rowG_len, List.length_cons, List.length_nil]; omega)).trans ?_
          rw [wrap_succ (by omega)]
          exact congrArg (fun z => some (Sum.inl (some (((k + 1 : Nat) : Int), ((k + 1 + 1 : Nat) : Int), ((k + 1 : Nat) : Int), z)))) (rowG_snoc (g := sL D (w + 1)) (y := y) (k := (k + 1)) (shL_big c1))
  · simp only [gsh_L2_step]
    exact cond_notI (by omega)
theorem rsh_row {D : List (List Ct)} {W H : Nat} (w0 : 1 ≤ W) (w1 : W ≤ 64) (h1 : H ≤ 64) (hl : D.length = W * H) {y : Nat} (hy : y < H) : iter (rsh_L2_step (W : Int) D (y : Int)) 5001 (0, []) = some ((W : Int), rowG (sL D W) y W) := by
  refine iter_run (fun k => ((k : Int), rowG (sL D W) y k)) (n := W) rfl (fun k hk => ?_) ?_ (by omega)
  · obtain ⟨e1, e2⟩ := at_ok (x := k) w1 h1 hl hy hk
    simp only [rsh_L2_step, e1, Int.toNat_natCast]
    refine (cond_decI (by omega)).trans ?_
    refine (cond_decI (by omega)).trans ?_
    refine (cond_decI (by simp only [rowG_len, List.length_cons, List.length_nil]; omega)).trans ?_
    rw [wrap_succ (by omega)]
    exact congrArg (fun z => some (Sum.inl (((k + 1 : Nat) : Int), z))) (rowG_snoc (g := sL D W) (y := y) (k := k) rfl)
  · simp only [rsh_L2_step]
    exact cond_notI (by omega)
theorem gsh_all {D : List (List Ct)} {W H : Nat} (w0 : 1 ≤ W) (w1 : W ≤ 64) (h1 : H ≤ 64) (hl : D.length = W * H) : iter (gsh_L0_step (W : Int) (H : Int) D) 5001 (0, []) = some ((H : Int), linesG (sL D W) W H) := by
  refine iter_run (fun k => ((k : Int), linesG (sL D W) W k)) (n := H) rfl (fun k hk => ?_) ?_ (by omega)
  · have i := gsh_row w0 w1 h1 hl hk
    have p : gsh_L2_p (W : Int) D (k : Int) = true := by unfold gsh_L2_p; rw [i]; rfl
    have v : gsh_L2_v (W : Int) D (k : Int) = .inr (((W - 1 : Nat) : Int), (W : Int), ((W - 1 : Nat) : Int), rowG (sL D W) k W) := by unfold gsh_L2_v; rw [i]; rfl
    have rl : (rowG (sL D W) k W).length = W := tab_length _ _
    simp only [gsh_L0_step, p, v, isL, getR, cond_true, cond_false]
    refine (cond_decI (by omega)).trans ?_
    refine (cond_decI (by rw [rl]; omega)).trans ?_
    refine (cond_decI ⟨trivial, by rw [rl]; omega⟩).trans ?_
    refine (cond_decI (by simp only [linesG, tab_length, List.length_cons, List.length_nil]; omega)).trans ?_
    rw [wrap_succ (by omega)]
    exact congrArg (fun z => some (Sum.inl (((k + 1 : Nat) : Int), z))) (tab_succ _ k)
  · simp only [gsh_L0_step]
    exact cond_notI (by omega)
theorem rsh_all {D : List (List Ct)} {W H : Nat} (w0 : 1 ≤ W) (w1 : W ≤ 64) (h1 : H ≤ 64) (hl : D.length = W * H) : iter (rsh_L0_step (W : Int) (H : Int) D) 5001 (0, []) = some ((H : Int), linesG (sL D W) W H) := by
  refine iter_run (fun k => ((k : Int), linesG (sL D W) W k)) (n := H) rfl (fun k hk => ?_) ?_ (by omega)
  · have i := rsh_row w0 w1 h1 hl hk
    have p : rsh_L2_p (W : Int) D (k : Int) = true := by unfold rsh_L2_p; rw [i]; rfl
    have v : rsh_L2_v (W : Int) D (k : Int) = ((W : Int), rowG (sL D W) k W) := by unfold rsh_L2_v loopRes; rw [i]; rfl
    simp only [rsh_L0_step, p, v, cond_true]
    refine (cond_decI (by omega)).trans ?_
    refine (cond_decI (by simp only [linesG, tab_length, List.length_cons, List.length_nil]; omega)).trans ?_
    rw [wrap_succ (by omega)]
    exact congrArg (fun z => some (Sum.inl (((k + 1 : Nat) : Int), z))) (tab_succ _ k)
  · simp only [rsh_L0_step]
    exact cond_notI (by omega)
theorem rsh_is {D : List (List Ct)} {W H : Nat} (w0 : 1 ≤ W) (w1 : W ≤ 64) (h1 : H ≤ 64) (hl : D.length = W * H) : rsh_res (W : Int) (H : Int) D = some (linesG (sL D W) W H) := by
  have i := rsh_all w0 w1 h1 hl
  have p : rsh_L0_p (W : Int) (H : Int) D = true := by unfold rsh_L0_p; rw [i]; rfl
  have v : rsh_L0_v (W : Int) (H : Int) D = ((H : Int), linesG (sL D W) W H) := by unfold rsh_L0_v loopRes; rw [i]; rfl
  simp only [rsh_res, p, v, cond_true]
theorem gfl_row {D : List (List Ct)} {W H : Nat} (hF : ∀ i, i < D.length → (rd D i 0).int < (W : Int) * (H : Int)) (w0 : 1 ≤ W) (w1 : W ≤ 64) (h1 : H ≤ 64) (hl : D.length = W * H) {y : Nat} (hy : y < H) : iter (gfl_L2_step (W : Int) D (y : Int)) 5001 none = some (.inr (((W - 1 : Nat) : Int), (W : Int), ((W - 1 : Nat) : Int), rowG (fL' D W) y W)) := by
  obtain ⟨w, rfl⟩ : ∃ w, W = w + 1 := ⟨W - 1, by omega⟩
  refine iter_run (fun k => match k with | 0 => none | k + 1 => some ((k : Int), ((k + 1 : Nat) : Int), (k : Int), rowG (fL' D (w + 1)) y (k + 1))) (n := w + 1) rfl (fun k hk => ?_) ?_ (by omega)
  · cases k with
    | zero =>
      obtain ⟨e1, e2⟩ := at_ok (x := 0) w1 h1 hl hy (by omega)
      have e1' : IntKind.i64.wrap (IntKind.i64.wrap ((y : Int) * ((w + 1 : Nat) : Int)) + (0 : Int)) = ((y * (w + 1) + 0 : Nat) : Int) := e1
      have hf := hF _ e2
      have ea : gfl_c49785673 ((w + 1 : Nat) : Int) D (y : Int) = sid_v (IntKind.i64.wrap ((rd D (y * (w + 1) + 0) 0).int.tdiv ((w + 1 : Nat) : Int))) (y : Int) := by unfold gfl_c49785673; rw [e1', Int.toNat_natCast]
      have eb : gfl_c65272965 ((w + 1 : Nat) : Int) D (y : Int) = sid_v ((rd D (y * (w + 1) + 0) 0).int.tmod ((w + 1 : Nat) : Int)) (0 : Int) := by unfold gfl_c65272965; rw [e1', Int.toNat_natCast]
      simp only [gfl_L2_step, ea, eb, e1', Int.toNat_natCast]
      refine (cond_decI (by omega)).trans ?_
      refine (cond_decI (by omega)).trans ?_
      by_cases c0 : (rd D (y * (w + 1) + 0) 0).int < 0
      · refine (cond_decI c0).trans ?_
        refine (cond_decI (by simp only [rowG_len, List.length_cons, List.length_nil]; omega)).trans ?_
        exact congrArg (fun z => some (Sum.inl (some (0, 1, 0, z)))) (rowG_snoc (g := fL' D (w + 1)) (y := y) (k := 0) (by unfold fL'; exact cond_decI c0))
      · obtain ⟨⟨f0, f1⟩, f2⟩ := fl_ok w0 w1 h1 hl hy (x := 0) (by omega) (by omega) hf
        refine (cond_notI c0).trans ?_
        refine (cond_decI (by omega)).trans ?_
        refine (cond_decI (by omega)).trans ?_
        refine (cond_decI ⟨f0, f1⟩).trans ?_
        refine (cond_decI (by simp only [rowG_len, List.length_cons, List.length_nil]; omega)).trans ?_
        exact congrArg (fun z => some (Sum.inl (some (0, 1, 0, z)))) (rowG_snoc (g := fL' D (w + 1)) (y := y) (k := 0) (((by unfold fL'; exact cond_notI c0) : fL' D (w + 1) y 0 = _).trans f2.symm))
    | succ k =>
      obtain ⟨e1, e2⟩ := at_ok (x := (k + 1)) w1 h1 hl hy (by omega)
      have e1' : IntKind.i64.wrap (IntKind.i64.wrap ((y : Int) * ((w + 1 : Nat) : Int)) + ((k + 1 : Nat) : Int)) = ((y * (w + 1) + (k + 1) : Nat) : Int) := e1
      have hf := hF _ e2
      have ea : gfl_c95246764 ((w + 1 : Nat) : Int) D (y : Int) ((k + 1 : Nat) : Int) = sid_v (IntKind.i64.wrap ((rd D (y * (w + 1) + (k + 1)) 0).int.tdiv ((w + 1 : Nat) : Int))) (y : Int) := by unfold gfl_c95246764; rw [e1', Int.toNat_natCast]
      have eb : gfl_c1502421 ((w + 1 : Nat) : Int) D (y : Int) ((k + 1 : Nat) : Int) = sid_v ((rd D (y * (w + 1) + (k + 1)) 0).int.tmod ((w + 1 : Nat) : Int)) ((k + 1 : Nat) : Int) := by unfold gfl_c1502421; rw [e1', Int.toNat_natCast]
      simp only [gfl_L2_step, ea, eb, e1', Int.toNat_natCast]
      refine (cond_decI (by omega)).trans ?_
      refine (cond_decI (by omega)).trans ?_
      by_cases c0 : (rd D (y * (w + 1) + (k + 1)) 0).int < 0
      · refine (cond_decI c0).trans ?_
        refine (cond_decI (by simp only [rowG_len, List.length_cons, List.length_nil]; omega)).trans ?_
        rw [wrap_succ (by omega)]
        exact congrArg (fun z => some (Sum.inl (some (((k + 1 : Nat) : Int), ((k + 1 + 1 : Nat) : Int), ((k + 1 : Nat) : Int), z)))) (rowG_snoc (g := fL' D (w + 1)) (y := y) (k := (k + 1)) (by unfold fL'; exact cond_decI c0))
      · obtain ⟨⟨f0, f1⟩, f2⟩ := fl_ok w0 w1 h1 hl hy (x := (k + 1)) (by omega) (by omega) hf
        refine (cond_notI c0).trans ?_
        refine (cond_decI (by omega)).trans ?_
        refine (cond_decI (by omega)).trans ?_
        refine (cond_decI ⟨f0, f1⟩).trans ?_
        refine (cond_decI (by simp only [rowG_len, List.length_cons, List.length_nil]; omega)).trans ?_
        rw [wrap_succ (by omega)]
        exact congrArg (fun z => some (Sum.inl (some (((k + 1 : Nat) : Int), ((k + 1 + 1 : Nat) : Int), ((k + 1 : Nat) : Int), z)))) (rowG_snoc (g := fL' D (w + 1)) (y := y) (k := (k + 1)) (((by unfold fL'; exact cond_notI c0) : fL' D (w + 1) y (k + 1) = _).trans f2.symm))
  · simp only [gfl_L2_step]
    exact cond_notI (by omega)
theorem rfl_row {D : List (List Ct)} {W H : Nat} (w0 : 1 ≤ W) (w1 : W ≤ 64) (h1 : H ≤ 64) (hl : D.length = W * H) {y : Nat} (hy : y < H) : iter (rfl_L2_step (W : Int) D (y : Int)) 5001 (0, []) = some ((W : Int), rowG (fL' D W) y W) := by
  refine iter_run (fun k => ((k : Int), rowG (fL' D W) y k)) (n := W) rfl (fun k hk => ?_) ?_ (by omega)
  · obtain ⟨e1, e2⟩ := at_ok (x := k) w1 h1 hl hy hk
    simp only [rfl_L2_step, e1, Int.toNat_natCast]
    refine (cond_decI (by omega)).trans ?_
    refine (cond_decI (by omega)).trans ?_
    by_cases c0 : (rd D (y * W + k) 0).int ≥ 0
    · refine (cond_decI c0).trans ?_
      refine (cond_decI (by omega)).trans ?_
      refine (cond_decI (by omega)).trans ?_
      refine (cond_decI (by simp only [rowG_len, List.length_cons, List.length_nil]; omega)).trans ?_
      rw [wrap_succ (by omega)]
      exact congrArg (fun z => some (Sum.inl (((k + 1 : Nat) : Int), z))) (rowG_snoc (g := fL' D W) (y := y) (k := k) (by unfold fL'; exact cond_notI (by omega)))
    · refine (cond_notI c0).trans ?_
      refine (cond_decI (by simp only [rowG_len, List.length_cons, List.length_nil]; omega)).trans ?_
      rw [wrap_succ (by omega)]
      exact congrArg (fun z => some (Sum.inl (((k + 1 : Nat) : Int), z))) (rowG_snoc (g := fL' D W) (y := y) (k := k) (by unfold fL'; exact cond_decI (by omega)))
  · simp only [rfl_L2_step]
    exact cond_notI (by omega)
theorem gfl_all {D : List (List Ct)} {W H : Nat} (hF : ∀ i, i < D.length → (rd D i 0).int < (W : Int) * (H : Int)) (w0 : 1 ≤ W) (w1 : W ≤ 64) (h1 : H ≤ 64) (hl : D.length = W * H) : iter (gfl_L0_step (W : Int) (H : Int) D) 5001 (0, []) = some ((H : Int), linesG (fL' D W) W H) := by
  refine iter_run (fun k => ((k : Int), linesG (fL' D W) W k)) (n := H) rfl (fun k hk => ?_) ?_ (by omega)
  · have i := gfl_row hF w0 w1 h1 hl hk
    have p : gfl_L2_p (W : Int) D (k : Int) = true := by unfold gfl_L2_p; rw [i]; rfl
    have v : gfl_L2_v (W : Int) D (k : Int) = .inr (((W - 1 : Nat) : Int), (W : Int), ((W - 1 : Nat) : Int), rowG (fL' D W) k W) := by unfold gfl_L2_v; rw [i]; rfl
    have rl : (rowG (fL' D W) k W).length = W := tab_length _ _
    simp only [gfl_L0_step, p, v, isL, getR, cond_true, cond_false]
    refine (cond_decI (by omega)).trans ?_
    refine (cond_decI (by rw [rl]; omega)).trans ?_
    refine (cond_decI ⟨trivial, by rw [rl]; omega⟩).trans ?_
    refine (cond_decI (by simp only [linesG, tab_length, List.length_cons, List.length_nil]; omega)).trans ?_
    rw [wrap_succ (by omega)]
    exact congrArg (fun z => some (Sum.inl (((k + 1 : Nat) : Int), z))) (tab_succ _ k)
  · simp only [gfl_L0_step]
    exact cond_notI (by omega)
theorem rfl_all {D : List (List Ct)} {W H : Nat} (w0 : 1 ≤ W) (w1 : W ≤ 64) (h1 : H ≤ 64) (hl : D.length = W * H) : iter (rfl_L0_step (W : Int) (H : Int) D) 5001 (0, []) = some ((H : Int), linesG (fL' D W) W H) := by
  refine iter_run (fun k => ((k : Int), linesG (fL' D W) W k)) (n := H) rfl (fun k hk => ?_) ?_ (by omega)
  · have i := rfl_row w0 w1 h1 hl hk
    have p : rfl_L2_p (W : Int) D (k : Int) = true := by unfold rfl_L2_p; rw [i]; rfl
    have v : rfl_L2_v (W : Int) D (k : Int) = ((W : Int), rowG (fL' D W) k W) := by unfold rfl_L2_v loopRes; rw [i]; rfl
    simp only [rfl_L0_step, p, v, cond_true]
    refine (cond_decI (by omega)).trans ?_
    refine (cond_decI (by simp only [linesG, tab_length, List.length_cons, List.length_nil]; omega)).trans ?_
    rw [wrap_succ (by omega)]
    exact congrArg (fun z => some (Sum.inl (((k + 1 : Nat) : Int), z))) (tab_succ _ k)
  · simp only [rfl_L0_step]
    exact cond_notI (by omega)
theorem rfl_is {D : List (List Ct)} {W H : Nat} (w0 : 1 ≤ W) (w1 : W ≤ 64) (h1 : H ≤ 64) (hl : D.length = W * H) : rfl_res (W : Int) (H : Int) D = some (linesG (fL' D W) W H) := by
  have i := rfl_all w0 w1 h1 hl
  have p : rfl_L0_p (W : Int) (H : Int) D = true := by unfold rfl_L0_p; rw [i]; rfl
  have v : rfl_L0_v (W : Int) (H : Int) D = ((H : Int), linesG (fL' D W) W H) := by unfold rfl_L0_v loopRes; rw [i]; rfl
  simp only [rfl_res, p, v, cond_true]
end Go.Proofs.Ytjjijaeoafeocaa
