/- Tables over bytes: what the loops answer. No condition. -/
import Derived.Test.YtonlllijdbjkaaaEngGt1
import Derived.Test.YtonlllijdbjkaaaEngGt2
import Derived.Test.YtonlllijdbjkaaaEngGt3
import Derived.Test.YtonlllijdbjkaaaEngGt4
import Derived.Test.YtonlllijdbjkaaaLoopA
set_option linter.unusedVariables false
set_option linter.unusedSimpArgs false
namespace Go.Proofs.Ytonlllijdbjkaaa
open Go.RowKit

/-- Rows of bytes. -/
def ByteL (l : List (List Ct)) (w : Nat) : Prop := ∀ i, i < l.length → ∀ j, j < w → 0 ≤ (rd l i j).int ∧ (rd l i j).int < 256
theorem upd1 (c : Ct) (r : List Ct) : updRow 1 0 [c] r = [c] := rfl
theorem u8_in {n : Int} (h0 : 0 ≤ n) (h1 : n < 256) : IntKind.u8.wrap n = n := by
  simp only [IntKind.wrap, IntKind.bits, IntKind.signed, Bool.false_and]
  simp
  omega
theorem set_tab {c : Nat → Ct} {n k : Nat} {r0 : List Ct} (hk : k < n) : (tab (fun j => [c j]) k ++ List.replicate (n - k) r0).set k [c k] = tab (fun j => [c j]) (k + 1) ++ List.replicate (n - (k + 1)) r0 := by
  have e : n - k = (n - (k + 1)) + 1 := by omega
  rw [e, List.replicate_succ, List.set_append_right _ _ (by simp [tab]), ← tab_succ]
  simp [tab_length]
/-- A loop that lays an array, number by number. -/
theorem iter_arr {step : (Int × List (List Ct)) → Option ((Int × List (List Ct)) ⊕ (Int × List (List Ct)))} {n : Nat} (c : Nat → Ct) {r0 : List Ct} (hin : ∀ k l, k < n → l.length = n → step ((k : Int), l) = some (.inl (((k + 1 : Nat) : Int), l.set k [c k])))
    (hout : ∀ l, l.length = n → step ((n : Int), l) = some (.inr ((n : Int), l))) {m : Nat} (hm : m = n + 1) : iter step m (0, List.replicate n r0) = some ((n : Int), tab (fun k => [c k]) n) := by
  subst hm
  have inv : ∀ k, k ≤ n → nfold (fun k (l : List (List Ct)) => l.set k [c k]) k (List.replicate n r0) = tab (fun j => [c j]) k ++ List.replicate (n - k) r0 := by
    intro k
    induction k with
    | zero => intro _; simp [nfold, tab]
    | succ k ih => intro hk; simp only [nfold, ih (by omega)]; exact set_tab (by omega)
  have := iter_range (step := step) (A := List (List Ct)) (fun k l => ((k : Int), l)) (fun _ l => l.length = n) (f := fun k l => l.set k [c k]) (out := fun l => ((n : Int), l)) (n := n) (m := n + 1) (v := (0, List.replicate n r0)) (a0 := List.replicate n r0) rfl (by omega)
    (fun k hk a ha => ⟨hin k a hk ha, by simpa using ha⟩) (fun a ha => hout a ha) (by simp)
  rw [this, inv n (Nat.le_refl _)]
  simp
def negT : List (List Ct) := tab (fun k => [.i (255 - k)]) 256
theorem neg_is : neg_L0_p = true ∧ neg_L0_v = (256, negT) := by
  have h : iter neg_L0_step 257 (0, List.replicate 256 [Ct.i 0]) = some (256, negT) := by
    refine iter_arr (n := 256) (fun k => .i (255 - (k : Int))) (fun k l hk hl => ?_) (fun l hl => by simp [neg_L0_step]) rfl
    have h1 : (k : Int) < 256 := by omega
    have w1 := wrap_succ (k := k) (by omega)
    have w2 : IntKind.i64.wrap (255 - (k : Int)) = 255 - (k : Int) := wrap_in (by omega) (by omega)
    have w3 : IntKind.u8.wrap (255 - (k : Int)) = 255 - (k : Int) := u8_in (by omega) (by omega)
    simp [neg_L0_step, h1, hl, w1, w2, w3, upd1, hk]
  exact ⟨by unfold neg_L0_p; rw [h]; rfl, by unfold neg_L0_v loopRes; rw [h]; rfl⟩
theorem neg_some : neg_res = some () := by
  obtain ⟨h1, h2⟩ := neg_is
  have h3 : (neg_L0_v).snd.length = 256 := by rw [h2]; exact tab_length _ _
  simp [neg_res, h1, h3, -List.reduceReplicate]
def thenT (x y : List (List Ct)) : List (List Ct) := tab (fun k => [.i (rd y (rd x k 0).int.toNat 0).int]) 256
theorem then_is {x0 x1 : List (List Ct)} (h0 : x0.length = 256) (h1 : x1.length = 256) (hb : ByteL x0 1) : then_L0_p x0 x1 = true ∧ then_L0_v x0 x1 = (256, thenT x0 x1) := by
  have h : iter (then_L0_step x0 x1) 257 (0, List.replicate 256 [Ct.i 0]) = some (256, thenT x0 x1) := by
    refine iter_arr (n := 256) (fun k => .i (rd x1 (rd x0 k 0).int.toNat 0).int) (fun k l hk hl => ?_) (fun l hl => by simp [then_L0_step]) rfl
    have e1 : (k : Int) < 256 := by omega
    have w1 := wrap_succ (k := k) (by omega)
    obtain ⟨b1, b2⟩ := hb k (by omega) 0 (by omega)
    simp [then_L0_step, e1, hl, w1, upd1, hk, h0, h1, b1, b2]
  exact ⟨by unfold then_L0_p; rw [h]; rfl, by unfold then_L0_v loopRes; rw [h]; rfl⟩
theorem then_some {x0 x1 : List (List Ct)} (h0 : x0.length = 256) (h1 : x1.length = 256) (hb : ByteL x0 1) : then_res x0 x1 = some (thenT x0 x1) := by
  obtain ⟨g1, g2⟩ := then_is h0 h1 hb
  have h3 : (thenT x0 x1).length = 256 := tab_length _ _
  simp [then_res, g1, g2, h0, h1, h3, -List.reduceReplicate]
def applyT (t d : List (List Ct)) : List (List Ct) := tab (fun k => [.i (rd t (rd d k 0).int.toNat 0).int, .i (rd t (rd d k 1).int.toNat 0).int, .i (rd t (rd d k 2).int.toNat 0).int]) d.length
theorem tap_is {t d : List (List Ct)} (h0 : t.length = 256) (hb : ByteL d 3) (hd : d.length ≤ 5000) : (tap_L0_p t d = true ∧ (tap_L0_v t d).snd = applyT t d) ∧ (rap_L0_p t d = true ∧ (rap_L0_v t d).snd = applyT t d) := by
  have key : ∀ step : (Int × List (List Ct)) → Option ((Int × List (List Ct)) ⊕ (Int × List (List Ct))), (∀ k l, k < d.length → l.length = k → step ((k : Int), l) = some (.inl (((k + 1 : Nat) : Int), l ++ [[.i (rd t (rd d k 0).int.toNat 0).int, .i (rd t (rd d k 1).int.toNat 0).int, .i (rd t (rd d k 2).int.toNat 0).int]]))) → (∀ l, step ((d.length : Int), l) = some (.inr ((d.length : Int), l))) →
      iter step (d.length + 1) (0, []) = some ((d.length : Int), applyT t d) := by
    intro step hin hout
    have := iter_range (step := step) (A := List (List Ct)) (fun k l => ((k : Int), l)) (fun k l => l.length = k) (f := fun k l => l ++ [[.i (rd t (rd d k 0).int.toNat 0).int, .i (rd t (rd d k 1).int.toNat 0).int, .i (rd t (rd d k 2).int.toNat 0).int]]) (out := fun l => ((d.length : Int), l)) (n := d.length) (m := d.length + 1) (v := (0, [])) (a0 := []) rfl (by omega)
      (fun k hk a ha => ⟨hin k a hk ha, by simp [ha]⟩) (fun a ha => hout a) rfl
    rw [this]
    congr 2
    exact nfold_tab (fun k a => rfl) _
  have hstep : ∀ k l, k < d.length → l.length = k → tap_L0_step t d ((k : Int), l) = some (.inl (((k + 1 : Nat) : Int), l ++ [[.i (rd t (rd d k 0).int.toNat 0).int, .i (rd t (rd d k 1).int.toNat 0).int, .i (rd t (rd d k 2).int.toNat 0).int]])) := by
    intro k l hk hl
    have e1 : (k : Int) < d.length := by omega
    have w1 := wrap_succ (k := k) (by omega)
    obtain ⟨b1, b2⟩ := hb k hk 0 (by omega)
    obtain ⟨b3, b4⟩ := hb k hk 1 (by omega)
    obtain ⟨b5, b6⟩ := hb k hk 2 (by omega)
    have o1 : k + 1 ≤ 9223372036854775807 ∧ (k + 1) * 3 ≤ 140737488355328 := by omega
    simp [tap_L0_step, e1, hl, w1, hk, h0, b1, b2, b3, b4, b5, b6, o1.1, o1.2]
  have h1 := key (tap_L0_step t d) hstep (fun l => by simp [tap_L0_step])
  have h2 := key (rap_L0_step t d) hstep (fun l => by simp [rap_L0_step])
  exact ⟨⟨by unfold tap_L0_p; rw [h1]; rfl, by unfold tap_L0_v loopRes; rw [h1]; rfl⟩, ⟨by unfold rap_L0_p; rw [h2]; rfl, by unfold rap_L0_v loopRes; rw [h2]; rfl⟩⟩
theorem applyT_length {t d : List (List Ct)} : (applyT t d).length = d.length := tab_length _ _
theorem rd_apply {t d : List (List Ct)} {k j : Nat} (hk : k < d.length) (hj : j < 3) : rd (applyT t d) k j = .i (rd t (rd d k j).int.toNat 0).int := by
  unfold applyT
  rw [rd_tab hk]
  rcases j with _ | _ | _ | j
  · rfl
  · rfl
  · rfl
  · omega

/-! ### The least and the greatest byte -/
def lowF (d : List (List Ct)) (k : Nat) (a : Int × Int) : Int × Int :=
  let v0 := (rd d k 0).int; let v1 := (rd d k 1).int; let v2 := (rd d k 2).int
  (min (min (min a.1 v0) v1) v2, max (max (max a.2 v0) v1) v2)
def ends (d : List (List Ct)) : Int × Int := nfold (lowF d) d.length (255, 0)
theorem spr_in {d : List (List Ct)} (hb : ByteL d 3) {k : Nat} (hk : k < d.length) (a b : Int) : iter (spr_L2_step d (k : Int)) 4 (a, b, 0) = some ((lowF d k (a, b)).1, (lowF d k (a, b)).2, 3) := by
  have w : ∀ j, j < 3 → IntKind.i64.wrap (rd d k j).int = (rd d k j).int := fun j hj => by
    have := hb k hk j hj
    exact wrap_in (by omega) (by omega)
  have w1 : IntKind.i64.wrap (1 : Int) = 1 := by decide
  have w2 : IntKind.i64.wrap (2 : Int) = 2 := by decide
  have w3 : IntKind.i64.wrap (3 : Int) = 3 := by decide
  have mn : ∀ x y : Int, (if y < x then y else x) = min x y := fun x y => by rw [Int.min_def]; split <;> split <;> omega
  have mx : ∀ x y : Int, (if y > x then y else x) = max x y := fun x y => by rw [Int.max_def]; split <;> split <;> omega
  simp [iter, spr_L2_step, Int.toNat_natCast, w 0 (by omega), w 1 (by omega), w 2 (by omega), w1, w2, w3, mn, mx, lowF]
theorem ends_spr {d : List (List Ct)} (hb : ByteL d 3) (hd : d.length ≤ 5000) : spr_L0_p d = true ∧ (spr_L0_v d).fst = (ends d).1 ∧ (spr_L0_v d).snd.fst = (ends d).2 := by
  have h : iter (spr_L0_step d) (d.length + 1) (255, 0, 0) = some ((ends d).1, (ends d).2, (d.length : Int)) := by
    have := iter_range (step := spr_L0_step d) (A := Int × Int) (fun k a => (a.1, a.2, (k : Int))) (fun _ _ => True) (f := lowF d) (out := fun a => (a.1, a.2, (d.length : Int))) (n := d.length) (m := d.length + 1) (v := (255, 0, 0)) (a0 := (255, 0)) rfl (by omega)
      (fun k hk a _ => ⟨?_, trivial⟩) (fun a _ => by simp [spr_L0_step]) trivial
    · rw [this]; rfl
    · have h1 := spr_in hb hk a.1 a.2
      have hp : spr_L2_p d a.1 a.2 (k : Int) = true := by unfold spr_L2_p; rw [h1]; rfl
      have hv : spr_L2_v d a.1 a.2 (k : Int) = ((lowF d k (a.1, a.2)).1, (lowF d k (a.1, a.2)).2, 3) := by unfold spr_L2_v loopRes; rw [h1]; rfl
      have w1 := wrap_succ (k := k) (by omega)
      have e1 : (k : Int) < d.length := by omega
      simp [spr_L0_step, e1, hp, hv, w1]
  exact ⟨by unfold spr_L0_p; rw [h]; rfl, by unfold spr_L0_v loopRes; rw [h]; rfl, by unfold spr_L0_v loopRes; rw [h]; rfl⟩
/-- One of the bytes. -/
def InB (d : List (List Ct)) (n : Nat) (x : Int) : Prop := ∃ i j, i < n ∧ j < 3 ∧ (rd d i j).int = x
theorem ends_ok {d : List (List Ct)} (hb : ByteL d 3) : ∀ n, n ≤ d.length → (n = 0 → nfold (lowF d) n (255, 0) = (255, 0)) ∧ (0 < n → InB d n (nfold (lowF d) n (255, 0)).1 ∧ InB d n (nfold (lowF d) n (255, 0)).2) ∧ (∀ x, InB d n x → (nfold (lowF d) n (255, 0)).1 ≤ x ∧ x ≤ (nfold (lowF d) n (255, 0)).2) := by
  intro n
  induction n with
  | zero => intro _; exact ⟨fun _ => rfl, fun h => absurd h (Nat.lt_irrefl _), fun x ⟨i, j, h, _⟩ => absurd h (Nat.not_lt_zero _)⟩
  | succ n ih =>
    intro hn
    obtain ⟨i1, i2, i3⟩ := ih (by omega)
    refine ⟨fun h => by omega, fun _ => ?_, fun x hx => ?_⟩
    · obtain ⟨b0, b0'⟩ := hb n (by omega) 0 (by omega)
      obtain ⟨b1, b1'⟩ := hb n (by omega) 1 (by omega)
      obtain ⟨b2, b2'⟩ := hb n (by omega) 2 (by omega)
      have c0 : InB d (n + 1) (rd d n 0).int := ⟨n, 0, by omega, by omega, rfl⟩
      have c1 : InB d (n + 1) (rd d n 1).int := ⟨n, 1, by omega, by omega, rfl⟩
      have c2 : InB d (n + 1) (rd d n 2).int := ⟨n, 2, by omega, by omega, rfl⟩
      have up : ∀ x, InB d n x → InB d (n + 1) x := fun x ⟨i, j, h1, h2, h3⟩ => ⟨i, j, by omega, h2, h3⟩
      rcases Nat.eq_zero_or_pos n with rfl | hp
      · rw [nfold, i1 rfl]
        simp only [lowF, Int.min_def, Int.max_def]
        constructor
        · repeat' split
          all_goals first | exact c0 | exact c1 | exact c2 | (rw [show (255 : Int) = (rd d 0 0).int by omega]; exact c0)
        · repeat' split
          all_goals first | exact c0 | exact c1 | exact c2 | (exfalso; omega)
      · obtain ⟨j1, j2⟩ := i2 hp
        have j1 := up _ j1
        have j2 := up _ j2
        rw [nfold]
        generalize nfold (lowF d) n (255, 0) = a at j1 j2
        simp only [lowF, Int.min_def, Int.max_def]
        constructor
        · repeat' split
          all_goals first | exact c0 | exact c1 | exact c2 | exact j1
        · repeat' split
          all_goals first | exact c0 | exact c1 | exact c2 | exact j2
    · obtain ⟨i, j, h1, h2, rfl⟩ := hx
      rw [nfold]
      have hx0 : i < n → (nfold (lowF d) n (255, 0)).1 ≤ (rd d i j).int ∧ (rd d i j).int ≤ (nfold (lowF d) n (255, 0)).2 := fun h => i3 _ ⟨i, j, h, h2, rfl⟩
      generalize nfold (lowF d) n (255, 0) = a at hx0
      simp only [lowF]
      by_cases hi : i < n
      · have := hx0 hi; omega
      · obtain rfl : i = n := by omega
        have hj : j = 0 ∨ j = 1 ∨ j = 2 := by omega
        rcases hj with rfl | rfl | rfl <;> omega
theorem ends_in {d : List (List Ct)} (hb : ByteL d 3) (h0 : 0 < d.length) : InB d d.length (ends d).1 ∧ InB d d.length (ends d).2 ∧ ∀ x, InB d d.length x → (ends d).1 ≤ x ∧ x ≤ (ends d).2 := by
  obtain ⟨_, h2, h3⟩ := ends_ok hb d.length (Nat.le_refl _)
  exact ⟨(h2 h0).1, (h2 h0).2, h3⟩
theorem inB_range {d : List (List Ct)} (hb : ByteL d 3) {n : Nat} (hn : n ≤ d.length) {x : Int} (h : InB d n x) : 0 ≤ x ∧ x < 256 := by
  obtain ⟨i, j, h1, h2, rfl⟩ := h
  exact hb i (by omega) j h2
/-- What each byte becomes. -/
def sprV (a b : Int) (k : Nat) : Int := if a = b then k else if (k : Int) ≤ a then 0 else if b ≤ (k : Int) then 255 else 255 * (k - a) / (b - a)
def sprT (d : List (List Ct)) : List (List Ct) := tab (fun k => [.i (sprV (ends d).1 (ends d).2 k)]) 256
theorem div_bd {x y : Int} (hx : 0 ≤ x) (hy : x ≤ y) (h0 : 0 < y) : 0 ≤ 255 * x / y ∧ 255 * x / y ≤ 255 := by
  constructor
  · exact Int.ediv_nonneg (by omega) (by omega)
  · have : 255 * x ≤ 255 * y := by omega
    calc 255 * x / y ≤ 255 * y / y := Int.ediv_le_ediv h0 this
      _ = 255 := Int.mul_ediv_cancel _ (by omega)
theorem sprV_bd {a b : Int} {k : Nat} (hk : k < 256) (hab : a ≤ b) : 0 ≤ sprV a b k ∧ sprV a b k < 256 := by
  unfold sprV
  split
  · omega
  · split
    · omega
    · split
      · omega
      · have := div_bd (x := k - a) (y := b - a) (by omega) (by omega) (by omega)
        omega
theorem spr_is {d : List (List Ct)} (hb : ByteL d 3) (hd : d.length ≤ 5000) (h0 : 0 < d.length) : spr_L0_p d = true ∧ spr_L4_p d = true ∧ spr_L4_v d = (256, sprT d) := by
  obtain ⟨g1, g2, g3⟩ := ends_spr hb hd
  obtain ⟨e1, e2, e3⟩ := ends_in hb h0
  have r1 := inB_range hb (Nat.le_refl _) e1
  have r2 := inB_range hb (Nat.le_refl _) e2
  have hab := (e3 _ e2).1
  have h : iter (spr_L4_step d) 257 (0, List.replicate 256 [Ct.i 0]) = some (256, sprT d) := by
    refine iter_arr (n := 256) (fun k => .i (sprV (ends d).1 (ends d).2 k)) (fun k l hk hl => ?_) (fun l hl => by simp [spr_L4_step]) rfl
    have h1 : (k : Int) < 256 := by omega
    have w1 := wrap_succ (k := k) (by omega)
    have w2 : IntKind.u8.wrap (k : Int) = k := u8_in (by omega) (by omega)
    simp only [spr_L4_step, g2, g3]
    generalize (ends d).1 = a at *
    generalize (ends d).2 = b at *
    rw [decide_eq_true h1]
    by_cases hgt : b > a
    · have w3 : IntKind.i64.wrap (b - a) = b - a := wrap_in (by omega) (by omega)
      have w4 : ∀ z : Int, 0 ≤ z → z ≤ 256 → IntKind.i64.wrap z = z ∧ IntKind.i64.wrap (255 * z) = 255 * z := fun z h0 h1 => ⟨wrap_in (by omega) (by omega), wrap_in (by omega) (by omega)⟩
      have hm : (if (if b < (k : Int) then b else (k : Int)) > a then (if b < (k : Int) then b else (k : Int)) else a) - a = (if (k : Int) ≤ a then 0 else if b ≤ (k : Int) then b - a else k - a) := by
        repeat' split
        all_goals omega
      rw [hm]
      have hz : 0 ≤ (if (k : Int) ≤ a then 0 else if b ≤ (k : Int) then b - a else k - a) ∧ (if (k : Int) ≤ a then 0 else if b ≤ (k : Int) then b - a else k - a) ≤ b - a := by
        repeat' split
        all_goals omega
      have hv : sprV a b k = 255 * (if (k : Int) ≤ a then 0 else if b ≤ (k : Int) then b - a else k - a) / (b - a) := by
        unfold sprV
        rw [if_neg (by omega)]
        split
        · simp
        · split
          · exact (Int.mul_ediv_cancel _ (by omega)).symm
          · rfl
      generalize (if (k : Int) ≤ a then 0 else if b ≤ (k : Int) then b - a else k - a) = z at *
      obtain ⟨w5, w6⟩ := w4 z (by omega) (by omega)
      have hbd := div_bd (x := z) (y := b - a) hz.1 hz.2 (by omega)
      rw [w5, w6, w3, Int.tdiv_eq_ediv_of_nonneg (by omega), wrap_in (n := 255 * z / (b - a)) (by omega) (by omega), u8_in (n := 255 * z / (b - a)) (by omega) (by omega), ← hv]
      have hne : ¬ (b - a = 0) := by omega
      simp [hgt, hl, w1, upd1, hk, hne, h1]
    · have hv : sprV a b k = k := by unfold sprV; rw [if_pos (by omega)]
      rw [hv]
      simp [hgt, hl, w1, w2, upd1, hk, h1]
  exact ⟨g1, by unfold spr_L4_p; rw [h]; rfl, by unfold spr_L4_v loopRes; rw [h]; rfl⟩
end Go.Proofs.Ytonlllijdbjkaaa
