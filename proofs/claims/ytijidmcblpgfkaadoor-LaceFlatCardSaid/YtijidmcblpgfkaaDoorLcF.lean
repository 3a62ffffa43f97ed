/- A level, plainly: both ways. No condition. -/
import Derived.Test.YtijidmcblpgfkaaDoorEngLc9
set_option linter.unusedVariables false
set_option linter.unusedSimpArgs false
namespace Go.Proofs.YtijidmcblpgfkaaDoor
open Go.RowKit

noncomputable def pixR (W H n : Int) (D N S L : List (List Ct)) (x y : Int) : List Ct := [.i (pixS W H n D N S L x y).1, .i (pixS W H n D N S L x y).2.1, .i (pixS W H n D N S L x y).2.2]
noncomputable def levT (W H n : Int) (D N S L : List (List Ct)) : List (List Ct) := tab (fun k => pixR W H n D N S L ((k : Int) % W) ((k : Int) / W)) L.length
/-- May it be a sheet? -/
def sheetR (w h : Int) (d : List (List Ct)) : Bool := bif bif decide (w ≥ (1 : Int)) then bif decide (w ≤ (64 : Int)) then bif decide (h ≥ (1 : Int)) then decide (h ≤ (64 : Int)) else false else false else false then ((d.length : Nat) : Int) == IntKind.i64.wrap (w * h) else false
theorem sheetR_ok {w h : Int} {d : List (List Ct)} (hp : sheetR w h d = true) : 1 ≤ w ∧ w ≤ 64 ∧ 1 ≤ h ∧ h ≤ 64 ∧ (d.length : Int) = w * h ∧ d.length ≤ 4096 := by
  unfold sheetR at hp
  simp only [Bool.cond_eq_ite, Bool.if_false_right, Bool.and_eq_true, decide_eq_true_eq, beq_iff_eq] at hp
  obtain ⟨⟨h1, h2, h3, h4⟩, h5⟩ := hp
  have hm : w * h ≤ 64 * 64 := Int.mul_le_mul h2 h4 (by omega) (by omega)
  have hm1 : 1 * 1 ≤ w * h := Int.mul_le_mul h1 h3 (by omega) (by omega)
  rw [wrap_in (by omega) (by omega)] at h5
  exact ⟨h1, h2, h3, h4, h5, by omega⟩
noncomputable def levB (x0_0 x0_1 : Int) (x0_2 x0_3 x0_4 x0_5 x0_6 x0_7 : List (List Ct)) (x1_0 x1_1 : Int) (x1_2 : List (List Ct)) (x2 : Int) : Bool :=
  filmS x0_0 x0_1 x0_2 x0_3 x0_4 x0_5 x0_6 x0_7 && (sheetR x1_0 x1_1 x1_2 && ((x0_0 == x1_0 && x0_1 == x1_1) && levP x2))
theorem levB_ok {x0_0 x0_1 : Int} {x0_2 x0_3 x0_4 x0_5 x0_6 x0_7 : List (List Ct)} {x1_0 x1_1 : Int} {x1_2 : List (List Ct)} {x2 : Int} (h : levB x0_0 x0_1 x0_2 x0_3 x0_4 x0_5 x0_6 x0_7 x1_0 x1_1 x1_2 x2 = true) : PixOk x1_0 x1_1 x2 x0_3 x0_4 x0_6 x1_2 := by
  simp only [levB, Bool.and_eq_true, beq_iff_eq] at h
  obtain ⟨h1, h2, ⟨rfl, rfl⟩, h4⟩ := h
  have f := filmS_iff.1 h1
  obtain ⟨s1, s2, s3, s4, s5, _⟩ := sheetR_ok h2
  exact ⟨s1, s2, s3, s4, h4, f.d, f.n, f.s, s5⟩
noncomputable def levS (x0_0 x0_1 : Int) (x0_2 x0_3 x0_4 x0_5 x0_6 x0_7 : List (List Ct)) (x1_0 x1_1 : Int) (x1_2 : List (List Ct)) (x2 : Int) : Int × Int × Int × List (List Ct) :=
  bif levB x0_0 x0_1 x0_2 x0_3 x0_4 x0_5 x0_6 x0_7 x1_0 x1_1 x1_2 x2 then (x1_0, x1_1, 0, levT x1_0 x1_1 x2 x0_3 x0_4 x0_6 x1_2) else (0, 0, 1, [])
section
variable {W H n : Int} {D N S L : List (List Ct)} (ok : PixOk W H n D N S L)
include ok
theorem len_bd : L.length ≤ 4096 := by
  have := wh_bd ok
  have := ok.l
  omega
theorem lev_is {g : List (List Ct)} (hg : gtB g = true) : iter (lev_L0_step g D N S W H L n) (L.length + 1) (0, []) = some ((L.length : Int), levT W H n D N S L) := by
  have hb := len_bd ok
  have hl := ok.l
  have := iter_range (step := lev_L0_step g D N S W H L n) (A := List (List Ct)) (fun k a => ((k : Int), a)) (fun k a => a.length = k) (f := fun k a => a ++ [pixR W H n D N S L ((k : Int) % W) ((k : Int) / W)]) (out := fun a => ((L.length : Int), a)) (n := L.length) (m := L.length + 1) (v := (0, [])) (a0 := []) rfl (by omega)
    (fun k hk a ha => ⟨by
      have w := wrap_succ (k := k) (by omega)
      have q : decide ((k : Int) < ((L.length : Nat) : Int)) = true := decide_eq_true (by omega)
      have o1 : decide ((0 : Int) ≤ k ∧ (k : Int) < W * H) = true := decide_eq_true ⟨by omega, by omega⟩
      have o2 : ∀ r : List Ct, decide (a.length + [r].length ≤ 9223372036854775807 ∧ (a.length + [r].length) * 24 ≤ 140737488355328) = true := fun r => decide_eq_true (by simp only [List.length_singleton]; omega)
      have v : pix_v g D N S W H L (k : Int) n = pixS W H n D N S L ((k : Int) % W) ((k : Int) / W) := rfl
      simp only [lev_L0_step, q, w, hg, okB_iff.2 ok, o1, o2, v, Bool.and_self, cond_true, pixR], by simp [ha]⟩) (fun a _ => by simp [lev_L0_step]) rfl
  rw [this]
  congr 2
  exact nfold_tab (fun k a => rfl) _
theorem rle_row {y : Nat} (hy : (y : Int) < H) {l : List (List Ct)} (hl : l.length ≤ 4096) : iter (rle_L2_step D N S W H L n (y : Int)) 66 (0, l) = some (W, l ++ tab (fun x => pixR W H n D N S L x y) W.toNat) := by
  have w0 := ok.w0
  have w1 := ok.w1
  have := iter_range (step := rle_L2_step D N S W H L n (y : Int)) (A := List (List Ct)) (fun k a => ((k : Int), l ++ a)) (fun k a => a.length = k) (f := fun k a => a ++ [pixR W H n D N S L (k : Int) y]) (out := fun a => (W, l ++ a)) (n := W.toNat) (m := 66) (v := (0, l)) (a0 := []) (by simp) (by omega)
    (fun k hk a ha => ⟨by
      have w := wrap_succ (k := k) (by omega)
      have q : decide ((k : Int) < W) = true := decide_eq_true (by omega)
      have o1 : decide ((0 : Int) ≤ k ∧ (k : Int) < W ∧ (0 : Int) ≤ (y : Int) ∧ (y : Int) < H) = true := decide_eq_true ⟨by omega, by omega, by omega, hy⟩
      have o2 : ∀ r : List Ct, decide ((l ++ a).length + [r].length ≤ 9223372036854775807 ∧ ((l ++ a).length + [r].length) * 24 ≤ 140737488355328) = true := fun r => decide_eq_true (by simp only [List.length_singleton, List.length_append]; omega)
      have v : rpx_v D N S W H L (k : Int) (y : Int) n = pixS W H n D N S L (k : Int) y := rfl
      simp only [rle_L2_step, q, w, okB_iff.2 ok, o1, o2, v, Bool.and_self, cond_true, pixR, List.append_assoc], by simp [ha]⟩) (fun a _ => by
        have e : ((W.toNat : Nat) : Int) = W := by omega
        have q : decide (W < W) = false := decide_eq_false (by omega)
        simp only [rle_L2_step, q, cond_false, e]) rfl
  rw [this]
  congr 2
  rw [nfold_tab (fun k a => rfl)]
omit ok in
/-- Rows, one behind the other. -/
theorem tab_rows (g : Nat → Nat → List Ct) {w : Nat} (hw : 0 < w) : ∀ h : Nat, nfold (fun y l => l ++ tab (fun x => g x y) w) h [] = tab (fun k => g (k % w) (k / w)) (h * w) := by
  intro h
  induction h with
  | zero => simp [nfold, tab]
  | succ h ih =>
    simp only [nfold, ih]
    unfold tab
    rw [Nat.succ_mul, List.range_add, List.map_append, List.map_map]
    congr 1
    refine List.map_congr_left fun x hx => ?_
    have hx := List.mem_range.1 hx
    have e1 : (h * w + x) % w = x := by rw [Nat.mul_comm, Nat.mul_add_mod]; exact Nat.mod_eq_of_lt hx
    have e2 : (h * w + x) / w = h := by rw [Nat.mul_comm, Nat.mul_add_div hw, Nat.div_eq_of_lt hx]; omega
    simp only [Function.comp, e1, e2]
theorem rle_is : iter (rle_L0_step D N S W H L n) 66 (0, []) = some (H, levT W H n D N S L) := by
  have w0 := ok.w0
  have w1 := ok.w1
  have h0 := ok.h0
  have h1 := ok.h1
  have hwh := wh_bd ok
  have key : ∀ k : Nat, (k : Int) ≤ H → (k * W.toNat : Nat) ≤ 4096 := fun k hk => by
    have := Nat.mul_le_mul (show k ≤ 64 by omega) (show W.toNat ≤ 64 by omega)
    omega
  have := iter_range (step := rle_L0_step D N S W H L n) (A := List (List Ct)) (fun k a => ((k : Int), a)) (fun k a => a.length = k * W.toNat) (f := fun y l => l ++ tab (fun x => pixR W H n D N S L x y) W.toNat) (out := fun a => (H, a)) (n := H.toNat) (m := 66) (v := (0, [])) (a0 := []) rfl (by omega)
    (fun k hk a ha => ⟨by
      have w := wrap_succ (k := k) (by omega)
      have q : decide ((k : Int) < H) = true := decide_eq_true (by omega)
      have hr := rle_row ok (y := k) (by omega) (l := a) (by have := key k (by omega); omega)
      have hp : rle_L2_p D N S W H L n (k : Int) a = true := (loop_of hr).1
      have hv := (loop_of hr).2
      change rle_L2_v D N S W H L n (k : Int) a = _ at hv
      simp only [rle_L0_step, q, w, hp, hv, cond_true], by simp only [List.length_append, ha, tab_length, Nat.succ_mul]⟩) (fun a _ => by
        have e : ((H.toNat : Nat) : Int) = H := by omega
        have q : decide (H < H) = false := decide_eq_false (by omega)
        simp only [rle_L0_step, q, cond_false, e]) (by simp)
  rw [this]
  congr 2
  rw [tab_rows (fun x y => pixR W H n D N S L x y) (by omega)]
  unfold levT
  have e : H.toNat * W.toNat = L.length := by
    have hl := ok.l
    have : ((H.toNat * W.toNat : Nat) : Int) = W * H := by
      rw [Int.natCast_mul, show ((H.toNat : Nat) : Int) = H by omega, show ((W.toNat : Nat) : Int) = W by omega, Int.mul_comm]
    omega
  rw [e]
  unfold tab
  refine List.map_congr_left fun k hk => ?_
  have e1 : ((k % W.toNat : Nat) : Int) = (k : Int) % W := by rw [Int.natCast_emod, show ((W.toNat : Nat) : Int) = W by omega]
  have e2 : ((k / W.toNat : Nat) : Int) = (k : Int) / W := by rw [Int.natCast_ediv, show ((W.toNat : Nat) : Int) = W by omega]
  rw [e1, e2]
end
theorem lev_some {g : List (List Ct)} {x0_0 x0_1 : Int} {x0_2 x0_3 x0_4 x0_5 x0_6 x0_7 : List (List Ct)} {x1_0 x1_1 : Int} {x1_2 : List (List Ct)} {x2 : Int} (hg : gtB g = true) : lev_res g x0_0 x0_1 x0_2 x0_3 x0_4 x0_5 x0_6 x0_7 x1_0 x1_1 x1_2 x2 = some (levS x0_0 x0_1 x0_2 x0_3 x0_4 x0_5 x0_6 x0_7 x1_0 x1_1 x1_2 x2) := by
  have e0 : (bif !fright_v x0_0 x0_1 x0_2 x0_3 x0_4 x0_5 x0_6 x0_7 then true else bif !sheetR x1_0 x1_1 x1_2 then true else bif !(x0_0 == x1_0 && (x0_1 == x1_1 && true)) then true else bif decide (x2 < (0 : Int)) then true else decide (x2 ≥ (5 : Int))) = !levB x0_0 x0_1 x0_2 x0_3 x0_4 x0_5 x0_6 x0_7 x1_0 x1_1 x1_2 x2 := by
    have e1 : levP x2 = (!decide (x2 < 0) && !decide (x2 ≥ 5)) := by
      unfold levP
      by_cases h1 : x2 < 0 <;> by_cases h2 : x2 ≥ 5 <;> simp [h1, h2] <;> omega
    have e2 : fright_v x0_0 x0_1 x0_2 x0_3 x0_4 x0_5 x0_6 x0_7 = filmS x0_0 x0_1 x0_2 x0_3 x0_4 x0_5 x0_6 x0_7 := rfl
    unfold levB
    rw [e1, e2]
    cases filmS x0_0 x0_1 x0_2 x0_3 x0_4 x0_5 x0_6 x0_7 <;> cases sheetR x1_0 x1_1 x1_2 <;> cases (x0_0 == x1_0) <;> cases (x0_1 == x1_1) <;> cases decide (x2 < 0) <;> cases decide (x2 ≥ 5) <;> rfl
  unfold lev_res
  show (bif (bif !fright_v x0_0 x0_1 x0_2 x0_3 x0_4 x0_5 x0_6 x0_7 then true else bif !sheetR x1_0 x1_1 x1_2 then true else bif !(x0_0 == x1_0 && (x0_1 == x1_1 && true)) then true else bif decide (x2 < (0 : Int)) then true else decide (x2 ≥ (5 : Int))) then _ else _) = _
  rw [e0]
  unfold levS
  cases hb : levB x0_0 x0_1 x0_2 x0_3 x0_4 x0_5 x0_6 x0_7 x1_0 x1_1 x1_2 x2 with
  | false => rfl
  | true =>
    have h := lev_is (levB_ok hb) hg
    have hp : lev_L0_p g x0_3 x0_4 x0_6 x1_0 x1_1 x1_2 x2 = true := (loop_of h).1
    have hv := (loop_of h).2
    change lev_L0_v g x0_3 x0_4 x0_6 x1_0 x1_1 x1_2 x2 = _ at hv
    rw [hp, hv]; rfl
theorem rle_some {x0_0 x0_1 : Int} {x0_2 x0_3 x0_4 x0_5 x0_6 x0_7 : List (List Ct)} {x1_0 x1_1 : Int} {x1_2 : List (List Ct)} {x2 : Int} : rle_res x0_0 x0_1 x0_2 x0_3 x0_4 x0_5 x0_6 x0_7 x1_0 x1_1 x1_2 x2 = some (levS x0_0 x0_1 x0_2 x0_3 x0_4 x0_5 x0_6 x0_7 x1_0 x1_1 x1_2 x2) := by
  have e0 : (bif !rfright_v x0_0 x0_1 x0_2 x0_3 x0_4 x0_5 x0_6 x0_7 then true else bif !sheetR x1_0 x1_1 x1_2 then true else bif x0_0 != x1_0 then true else bif x0_1 != x1_1 then true else bif decide (x2 < (0 : Int)) then true else decide (x2 ≥ (5 : Int))) = !levB x0_0 x0_1 x0_2 x0_3 x0_4 x0_5 x0_6 x0_7 x1_0 x1_1 x1_2 x2 := by
    have e1 : levP x2 = (!decide (x2 < 0) && !decide (x2 ≥ 5)) := by
      unfold levP
      by_cases h1 : x2 < 0 <;> by_cases h2 : x2 ≥ 5 <;> simp [h1, h2] <;> omega
    have e2 : rfright_v x0_0 x0_1 x0_2 x0_3 x0_4 x0_5 x0_6 x0_7 = filmS x0_0 x0_1 x0_2 x0_3 x0_4 x0_5 x0_6 x0_7 := rfl
    unfold levB bne
    rw [e1, e2]
    cases filmS x0_0 x0_1 x0_2 x0_3 x0_4 x0_5 x0_6 x0_7 <;> cases sheetR x1_0 x1_1 x1_2 <;> cases (x0_0 == x1_0) <;> cases (x0_1 == x1_1) <;> cases decide (x2 < 0) <;> cases decide (x2 ≥ 5) <;> rfl
  unfold rle_res
  show (bif (bif !rfright_v x0_0 x0_1 x0_2 x0_3 x0_4 x0_5 x0_6 x0_7 then true else bif !sheetR x1_0 x1_1 x1_2 then true else bif x0_0 != x1_0 then true else bif x0_1 != x1_1 then true else bif decide (x2 < (0 : Int)) then true else decide (x2 ≥ (5 : Int))) then _ else _) = _
  rw [e0]
  unfold levS
  cases hb : levB x0_0 x0_1 x0_2 x0_3 x0_4 x0_5 x0_6 x0_7 x1_0 x1_1 x1_2 x2 with
  | false => rfl
  | true =>
    have h := rle_is (levB_ok hb)
    have hp : rle_L0_p x0_3 x0_4 x0_6 x1_0 x1_1 x1_2 x2 = true := (loop_of h).1
    have hv := (loop_of h).2
    change rle_L0_v x0_3 x0_4 x0_6 x1_0 x1_1 x1_2 x2 = _ at hv
    rw [hp, hv]; rfl
end Go.Proofs.YtijidmcblpgfkaaDoor
