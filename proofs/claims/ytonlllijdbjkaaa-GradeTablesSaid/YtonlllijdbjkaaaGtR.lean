/- Tables over bytes: what each function answers. No condition. -/
import Derived.Test.YtonlllijdbjkaaaGtQ
import Derived.Test.YtonlllijdbjkaaaEngGt8
set_option linter.unusedVariables false
set_option linter.unusedSimpArgs false
namespace Go.Proofs.Ytonlllijdbjkaaa
open Go.RowKit

theorem then_some' {x0 x1 : List (List Ct)} (h : (decide (x0.length = 256) && decide (x1.length = 256) && byteB x0 1) = true) : then_res x0 x1 = some (thenT x0 x1) := by
  simp only [Bool.and_eq_true, decide_eq_true_eq] at h
  exact then_some h.1.1 h.1.2 (byteB_iff.1 h.2)
theorem tap_some {t d : List (List Ct)} {w hh : Int} (h : (decide (t.length = 256) && byteB d 3 && decide (d.length ≤ 5000)) = true) : tap_res t w hh d = some (bif picB w hh d then (w, hh, 0, applyT t d) else (0, 0, 1, [])) := by
  simp only [Bool.and_eq_true, decide_eq_true_eq] at h
  obtain ⟨⟨h1, h2⟩, h3⟩ := h
  obtain ⟨⟨g1, g2⟩, _⟩ := tap_is h1 (byteB_iff.1 h2) h3
  unfold tap_res
  rw [decide_eq_true h1]
  show (bif !picB w hh d then _ else _) = _
  cases hp : picB w hh d <;> simp [g1, g2]
theorem rap_some {t d : List (List Ct)} {w hh : Int} (h : (decide (t.length = 256) && byteB d 3 && decide (d.length ≤ 5000)) = true) : rap_res t w hh d = some (w, hh, applyT t d) := by
  simp only [Bool.and_eq_true, decide_eq_true_eq] at h
  obtain ⟨⟨h1, h2⟩, h3⟩ := h
  obtain ⟨_, g1, g2⟩ := tap_is h1 (byteB_iff.1 h2) h3
  simp [rap_res, h1, g1, g2]
/-! ### Two pictures -/
def unlike (a b : List (List Ct)) (k : Nat) : Bool := !((rd a k 0).int == (rd b k 0).int && ((rd a k 1).int == (rd b k 1).int && ((rd a k 2).int == (rd b k 2).int && true)))
def psaS (w0 h0 : Int) (d0 : List (List Ct)) (w1 h1 : Int) (d1 : List (List Ct)) : Bool := w0 == w1 && (h0 == h1 && (d0.length == d1.length && (findB (unlike d0 d1) d0.length 0).isNone))
theorem psa_some (w0 h0 : Int) (d0 : List (List Ct)) (w1 h1 : Int) (d1 : List (List Ct)) (hlen : d0.length < 9223372036854775807) : psa_res w0 h0 d0 w1 h1 d1 = some (psaS w0 h0 d0 w1 h1 d1) := by
  unfold psa_res psaS
  by_cases e1 : w0 = w1
  rotate_left
  · have : (w0 == w1) = false := by simpa using e1
    simp [bne, this]
  by_cases e2 : h0 = h1
  rotate_left
  · have : (h0 == h1) = false := by simpa using e2
    simp [bne, this]
  by_cases e3 : d0.length = d1.length
  rotate_left
  · have : (d0.length == d1.length) = false := by simpa using e3
    have : ((d0.length : Int) == (d1.length : Int)) = false := by simp; omega
    simp [bne, *]
  subst e1 e2
  by_cases hb : d0.length < 9223372036854775807
  · have h : iter (psa_L0_step d0 d1) (d0.length + 1) 0 = _ := iter_find (unlike d0 d1) (fun _ => ()) (n := d0.length) (m := d0.length + 1) (fun k hk => by
      have w1 := wrap_succ (k := k) (by omega)
      have e4 : (k : Int) < d0.length := by omega
      have e5 : (k : Int) < d1.length := by omega
      simp only [psa_L0_step, decide_eq_true e4, cond_true, Int.toNat_natCast, w1]
      have o1 : decide ((0 : Int) ≤ k ∧ (k : Int) < d0.length) = true := by simp; omega
      have o2 : decide ((0 : Int) ≤ k ∧ (k : Int) < d1.length) = true := by simp; omega
      rw [o1, o2]
      simp only [cond_true]
      rw [← cond_some]; rfl) (by simp [psa_L0_step]) (by omega)
    have hp : psa_L0_p d0 d1 = true := by unfold psa_L0_p; rw [h]; rfl
    have hv : isL (psa_L0_v d0 d1) = (findB (unlike d0 d1) d0.length 0).isNone := by
      unfold psa_L0_v; rw [h, Option.getD_some]
      cases findB (unlike d0 d1) d0.length 0 <;> rfl
    have e6 : ((d0.length : Int) == (d1.length : Int)) = true := by simp [e3]
    simp only [bne, beq_self_eq_true, e6, hp, hv, e3, Bool.not_true, cond_false, cond_true, Bool.true_and]
    cases (findB (unlike d0 d1) d1.length 0).isNone <;> rfl
  · exact absurd hlen hb
/-! ### The stretching of the document -/
def seenF (d : List (List Ct)) (k : Nat) (l : List (List Ct)) : List (List Ct) := ((l.set (rd d k 0).int.toNat [.b true]).set (rd d k 1).int.toNat [.b true]).set (rd d k 2).int.toNat [.b true]
def seenD (d : List (List Ct)) (n : Nat) : List (List Ct) := nfold (seenF d) n (List.replicate 256 [.b false])
theorem seen_length {d : List (List Ct)} {n : Nat} : (seenD d n).length = 256 := by
  unfold seenD
  exact nfold_inv (fun _ (l : List (List Ct)) => l.length = 256) (List.length_replicate ..) (fun k _ l hl => by simp [seenF, hl])
theorem rd_set1 {l : List (List Ct)} {i x : Nat} (hi : i < l.length) : (rd (l.set i [.b true]) x 0).bool = true ↔ x = i ∨ (rd l x 0).bool = true := by
  rw [rd_set hi]
  by_cases h : x = i
  · simp [h, Ct.bool]
  · simp [h]
theorem seen_iff {d : List (List Ct)} (hb : ByteL d 3) : ∀ n, n ≤ d.length → ∀ x : Nat, (rd (seenD d n) x 0).bool = true ↔ InB d n (x : Int) := by
  intro n
  induction n with
  | zero =>
    intro _ x
    constructor
    · intro h
      by_cases hx : x < 256
      · have : rd (seenD d 0) x 0 = .b false := by simp [seenD, nfold, rd, List.getD_eq_getElem?_getD, hx, -List.reduceReplicate]
        rw [this] at h; cases h
      · have : rd (seenD d 0) x 0 = .i 0 := by simp [seenD, nfold, rd, List.getD_eq_getElem?_getD, hx, -List.reduceReplicate]
        rw [this] at h; cases h
    · rintro ⟨i, j, h, _⟩; exact absurd h (Nat.not_lt_zero _)
  | succ n ih =>
    intro hn x
    have e : seenD d (n + 1) = seenF d n (seenD d n) := rfl
    have hl : (seenD d n).length = 256 := seen_length
    have b0 := hb n (by omega) 0 (by omega)
    have b1 := hb n (by omega) 1 (by omega)
    have b2 := hb n (by omega) 2 (by omega)
    rw [e]
    unfold seenF
    rw [rd_set1 (by simp [hl]; omega), rd_set1 (by simp [hl]; omega), rd_set1 (by simp [hl]; omega), ih (by omega) x]
    constructor
    · rintro (h | h | h | ⟨i, j, h1, h2, h3⟩)
      · exact ⟨n, 2, by omega, by omega, by omega⟩
      · exact ⟨n, 1, by omega, by omega, by omega⟩
      · exact ⟨n, 0, by omega, by omega, by omega⟩
      · exact ⟨i, j, by omega, h2, h3⟩
    · rintro ⟨i, j, h1, h2, h3⟩
      by_cases hi : i < n
      · exact .inr (.inr (.inr ⟨i, j, hi, h2, h3⟩))
      · obtain rfl : i = n := by omega
        have hj : j = 0 ∨ j = 1 ∨ j = 2 := by omega
        rcases hj with rfl | rfl | rfl
        · exact .inr (.inr (.inl (by omega)))
        · exact .inr (.inl (by omega))
        · exact .inl (by omega)
theorem rsp_in {d : List (List Ct)} (hb : ByteL d 3) {k : Nat} (hk : k < d.length) {l : List (List Ct)} (hl : l.length = 256) : iter (rsp_L2_step d (k : Int)) 4 (0, l) = some (3, seenF d k l) := by
  have b0 := hb k hk 0 (by omega)
  have b1 := hb k hk 1 (by omega)
  have b2 := hb k hk 2 (by omega)
  have w1 : IntKind.i64.wrap (1 : Int) = 1 := by decide
  have w2 : IntKind.i64.wrap (2 : Int) = 2 := by decide
  have w3 : IntKind.i64.wrap (3 : Int) = 3 := by decide
  have e1 : (k : Int) < d.length := by omega
  simp [iter, rsp_L2_step, w1, w2, w3, hk, hl, b0.1, b0.2, b1.1, b1.2, b2.1, b2.2, upd1, seenF]
theorem rsp_L0_is {d : List (List Ct)} (hb : ByteL d 3) (hd : d.length ≤ 5000) : rsp_L0_p d = true ∧ (rsp_L0_v d).snd = seenD d d.length := by
  have h : iter (rsp_L0_step d) (d.length + 1) (0, List.replicate 256 [.b false]) = some ((d.length : Int), seenD d d.length) := by
    have := iter_range (step := rsp_L0_step d) (A := List (List Ct)) (fun k a => ((k : Int), a)) (fun _ a => a.length = 256) (f := seenF d) (out := fun a => ((d.length : Int), a)) (n := d.length) (m := d.length + 1) (v := (0, List.replicate 256 [.b false])) (a0 := List.replicate 256 [.b false]) rfl (by omega)
      (fun k hk a ha => ⟨?_, by simp [seenF, ha]⟩) (fun a _ => by simp [rsp_L0_step]) (List.length_replicate ..)
    · rw [this]; rfl
    · have h1 := rsp_in hb hk ha
      have hp : rsp_L2_p d (k : Int) a = true := by unfold rsp_L2_p; rw [h1]; rfl
      have hv : rsp_L2_v d (k : Int) a = (3, seenF d k a) := by unfold rsp_L2_v loopRes; rw [h1]; rfl
      have w1 := wrap_succ (k := k) (by omega)
      simp [rsp_L0_step, hk, hp, hv, w1]
  exact ⟨by unfold rsp_L0_p; rw [h]; rfl, by unfold rsp_L0_v loopRes; rw [h]; rfl⟩
theorem rsp_ends {d : List (List Ct)} (hb : ByteL d 3) (hd : d.length ≤ 5000) (h0 : 0 < d.length) : (rsp_L4_p d = true ∧ rsp_L4_v d = (ends d).1) ∧ rsp_L6_p d = true ∧ rsp_L6_v d = (ends d).2 := by
  obtain ⟨e1, e2, e3⟩ := ends_in hb h0
  have r1 := inB_range hb (Nat.le_refl _) e1
  have r2 := inB_range hb (Nat.le_refl _) e2
  obtain ⟨_, hs⟩ := rsp_L0_is hb hd
  have hlen : (rsp_L0_v d).snd.length = 256 := by rw [hs]; exact seen_length
  have hsi := seen_iff hb d.length (Nat.le_refl _)
  generalize (ends d).1 = a at *
  generalize (ends d).2 = b at *
  obtain ⟨a, rfl⟩ : ∃ a' : Nat, a = (a' : Int) := ⟨a.toNat, by omega⟩
  obtain ⟨b, rfl⟩ : ∃ b' : Nat, b = (b' : Int) := ⟨b.toNat, by omega⟩
  have no : ∀ x : Nat, ¬ InB d d.length (x : Int) → (rd (seenD d d.length) x 0).bool = false := fun x hx => by
    cases hq : (rd (seenD d d.length) x 0).bool with
    | false => rfl
    | true => exact absurd ((hsi x).1 hq) hx
  have h4 : iter (rsp_L4_step d) 257 0 = some (a : Int) := by
    refine iter_run (fun k => (k : Int)) (n := a) rfl (fun k hk => ?_) ?_ (by omega)
    · have hn := no k fun h => by have := (e3 _ h).1; omega
      have w1 := wrap_succ (k := k) (by omega)
      have o : (k : Int) < 256 := by omega
      simp [rsp_L4_step, hs, seen_length, o, hn, w1]
    · have hy := (hsi a).2 e1
      have o : (a : Int) < 256 := by omega
      simp [rsp_L4_step, hs, seen_length, o, hy]
  have h6 : iter (rsp_L6_step d) 257 255 = some (b : Int) := by
    refine iter_run (fun k => 255 - (k : Int)) (n := 255 - b) rfl (fun k hk => ?_) ?_ (by omega)
    · have e9 : (255 - (k : Int)) = ((255 - k : Nat) : Int) := by omega
      have hn := no (255 - k) fun h => by have := (e3 _ h).2; omega
      have w1 : IntKind.i64.wrap (((255 - k : Nat) : Int) - 1) = 255 - ((k + 1 : Nat) : Int) := by rw [wrap_in (by omega) (by omega)]; omega
      have o : ((255 - k : Nat) : Int) < 256 := by omega
      rw [e9]
      simp only [rsp_L6_step, hs, seen_length, Int.toNat_natCast, hn, w1]
      rw [decide_eq_true ⟨by omega, by omega, by omega⟩]
      rfl
    · have hy := (hsi b).2 e2
      have e9 : (255 - ((255 - b : Nat) : Int)) = (b : Int) := by omega
      rw [e9]
      simp only [rsp_L6_step, hs, seen_length, Int.toNat_natCast, hy]
      rw [decide_eq_true ⟨by omega, by omega, by omega⟩]
      rfl
  exact ⟨⟨by unfold rsp_L4_p; rw [h4]; rfl, by unfold rsp_L4_v loopRes; rw [h4]; rfl⟩, by unfold rsp_L6_p; rw [h6]; rfl, by unfold rsp_L6_v loopRes; rw [h6]; rfl⟩
theorem rsp_some {x0_2 : List (List Ct)} (h : (byteB x0_2 3 && decide (0 < x0_2.length) && decide (x0_2.length ≤ 5000)) = true) : rsp_res x0_2 = some (sprT x0_2) := by
  simp only [Bool.and_eq_true, decide_eq_true_eq] at h
  obtain ⟨⟨h1, h0⟩, hd⟩ := h
  have hb := byteB_iff.1 h1
  obtain ⟨g1, _⟩ := rsp_L0_is hb hd
  obtain ⟨⟨g2, g3⟩, g4, g5⟩ := rsp_ends hb hd h0
  obtain ⟨e1, e2, e3⟩ := ends_in hb h0
  have r1 := inB_range hb (Nat.le_refl _) e1
  have r2 := inB_range hb (Nat.le_refl _) e2
  have hab := (e3 _ e2).1
  have h8 : iter (rsp_L8_step x0_2) 257 (0, List.replicate 256 [Ct.i 0]) = some (256, sprT x0_2) := by
    refine iter_arr (n := 256) (fun k => .i (sprV (ends x0_2).1 (ends x0_2).2 k)) (fun k l hk hl => ?_) (fun l hl => by simp [rsp_L8_step]) rfl
    have h1 : (k : Int) < 256 := by omega
    have w1 := wrap_succ (k := k) (by omega)
    have w2 : IntKind.u8.wrap (k : Int) = k := u8_in (by omega) (by omega)
    have ho : decide ((0 : Int) ≤ k ∧ (k : Int) < ((256 : Nat) : Int) ∧ (k : Int) < (l.length : Int)) = true := by rw [hl]; simp; omega
    have ho' : decide ((0 : Int) ≤ k ∧ (k : Int) < 256 ∧ (k : Int) < (l.length : Int)) = true := by simp; omega
    simp only [rsp_L8_step, g3, g5, ho, ho', cond_same, decide_eq_true h1, cond_true, w1, Bool.and_true, Int.toNat_natCast, upd1, w2]
    generalize (ends x0_2).1 = a at *
    generalize (ends x0_2).2 = b at *
    unfold sprV
    by_cases q1 : a = b
    · have : (a == b) = true := by simp [q1]
      rw [this, if_pos q1]; simp only [cond_true]
    have q1' : (a == b) = false := by simpa using q1
    rw [q1', if_neg q1]
    simp only [cond_false]
    by_cases q2 : (k : Int) ≤ a
    · rw [decide_eq_true q2, if_pos q2]; simp only [cond_true]
    rw [decide_eq_false q2, if_neg q2]
    simp only [cond_false]
    by_cases q3 : b ≤ (k : Int)
    · rw [decide_eq_true (show (k : Int) ≥ b from q3), if_pos q3]; simp only [cond_true]
    rw [decide_eq_false (show ¬ (k : Int) ≥ b from q3), if_neg q3]
    simp only [cond_false]
    have hbd := div_bd (x := k - a) (y := b - a) (by omega) (by omega) (by omega)
    rw [wrap_in (n := b - a) (by omega) (by omega), wrap_in (n := (k : Int) - a) (by omega) (by omega), wrap_in (n := 255 * ((k : Int) - a)) (by omega) (by omega), Int.tdiv_eq_ediv_of_nonneg (by omega), wrap_in (n := 255 * ((k : Int) - a) / (b - a)) (by omega) (by omega), u8_in (n := 255 * ((k : Int) - a) / (b - a)) (by omega) (by omega)]
    have : decide (b - a ≠ 0) = true := by simp; omega
    simp only [this, Bool.true_and, ho', cond_true]
  have g8 : rsp_L8_p x0_2 = true := by unfold rsp_L8_p; rw [h8]; rfl
  have g9 : rsp_L8_v x0_2 = (256, sprT x0_2) := by unfold rsp_L8_v loopRes; rw [h8]; rfl
  have hl : (sprT x0_2).length = 256 := tab_length _ _
  simp [rsp_res, g1, g2, g4, g8, g9, hl, -List.reduceReplicate]
end Go.Proofs.Ytonlllijdbjkaaa
