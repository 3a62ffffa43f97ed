/- The law LaceFlat: it answers true for all values. No condition. -/
import Derived.Test.YtijidmcblpgfkaaDoorLcK
import Derived.Test.YtijidmcblpgfkaaDoorLaceFlatT
set_option linter.unusedVariables false
set_option linter.unusedSimpArgs false
namespace Go.Proofs.YtijidmcblpgfkaaDoor
open Go.RowKit

/-- A loop that lays each row anew. -/
theorem iter_fill {step : (Int × List (List Ct)) → Option ((Int × List (List Ct)) ⊕ (Int × List (List Ct)))} {n : Nat} (c : Nat → List Ct) {l0 : List (List Ct)} (hl : l0.length = n) (hin : ∀ k l, k < n → l.length = n → step ((k : Int), l) = some (.inl (((k + 1 : Nat) : Int), l.set k (c k))))
    (hout : ∀ l, l.length = n → step ((n : Int), l) = some (.inr ((n : Int), l))) {m : Nat} (hm : m = n + 1) : iter step m (0, l0) = some ((n : Int), tab c n) := by
  subst hm
  have inv : ∀ k, k ≤ n → nfold (fun k (l : List (List Ct)) => l.set k (c k)) k l0 = tab c k ++ l0.drop k := by
    intro k
    induction k with
    | zero => intro _; simp [nfold, tab]
    | succ k ih =>
      intro hk
      simp only [nfold, ih (by omega)]
      rw [List.set_append_right _ _ (by simp [tab]), tab_length, Nat.sub_self, ← tab_succ]
      have : l0.drop k = l0[k]'(by omega) :: l0.drop (k + 1) := List.drop_eq_getElem_cons (by omega)
      rw [this, List.set_cons_zero]
      simp
  have := iter_range (step := step) (A := List (List Ct)) (fun k l => ((k : Int), l)) (fun _ l => l.length = n) (f := fun k l => l.set k (c k)) (out := fun l => ((n : Int), l)) (n := n) (m := n + 1) (v := (0, l0)) (a0 := l0) rfl (by omega)
    (fun k hk a ha => ⟨hin k a hk ha, by simpa using ha⟩) (fun a ha => hout a ha) hl
  rw [this, inv n (Nat.le_refl _), List.drop_of_length_le (by omega)]
  simp
theorem upd3 (a b c : Ct) (r : List Ct) : updRow 3 0 [a, b, c] r = [a, b, c] := rfl
def hOk (a : Int) : Bool := !(bif decide (a < 0) then true else decide (a > 1048576))
theorem hOk_iff {a : Int} : hOk a = true ↔ 0 ≤ a ∧ a ≤ 1048576 := by
  unfold hOk
  by_cases h1 : a < 0 <;> by_cases h2 : a > 1048576 <;> simp [h1, h2] <;> omega
theorem llf_L0_is {gT : List (List Ct)} (hg : gtB gT = true) (a b c : Int) : llf_L0_p gT a b c = true ∧ isL (llf_L0_v gT a b c) = (hOk a && (hOk b && hOk c)) := by
  have w1 : IntKind.i64.wrap (1 : Int) = 1 := by decide
  have w2 : IntKind.i64.wrap (2 : Int) = 2 := by decide
  have w3 : IntKind.i64.wrap (3 : Int) = 3 := by decide
  have key : ∃ r, iter (llf_L0_step gT a b c) 4 0 = some r ∧ isL r = (hOk a && (hOk b && hOk c)) := by
    unfold hOk
    by_cases a1 : a < 0
    · exact ⟨.inr (), by simp [iter, llf_L0_step, a1, hg], by simp [isL, a1]⟩
    by_cases a2 : a > 1048576
    · exact ⟨.inr (), by simp [iter, llf_L0_step, a1, a2, hg], by simp [isL, a1, a2]⟩
    by_cases b1 : b < 0
    · exact ⟨.inr (), by simp [iter, llf_L0_step, a1, a2, b1, hg, w1], by simp [isL, a1, a2, b1]⟩
    by_cases b2 : b > 1048576
    · exact ⟨.inr (), by simp [iter, llf_L0_step, a1, a2, b1, b2, hg, w1], by simp [isL, a1, a2, b1, b2]⟩
    by_cases c1 : c < 0
    · exact ⟨.inr (), by simp [iter, llf_L0_step, a1, a2, b1, b2, c1, hg, w1, w2], by simp [isL, a1, a2, b1, b2, c1]⟩
    by_cases c2 : c > 1048576
    · exact ⟨.inr (), by simp [iter, llf_L0_step, a1, a2, b1, b2, c1, c2, hg, w1, w2], by simp [isL, a1, a2, b1, b2, c1, c2]⟩
    · exact ⟨.inl 3, by simp [iter, llf_L0_step, a1, a2, b1, b2, c1, c2, hg, w1, w2, w3], by simp [isL, a1, a2, b1, b2, c1, c2]⟩
  obtain ⟨r, h1, h2⟩ := key
  exact ⟨by unfold llf_L0_p; rw [h1]; rfl, by unfold llf_L0_v; rw [h1]; exact h2⟩
/-- A picture of one light alone. -/
def flatL (a b c : Int) (n : Nat) : List (List Ct) := tab (fun _ => [.i a, .i b, .i c]) n
section
variable {x0_0 x0_1 : Int} {x0_2 x0_3 x0_4 x0_5 x0_6 x0_7 : List (List Ct)} {x1_0 x1_1 x1_2 : Int}
theorem llf_fill (hn : x0_2.length ≤ 4096) : llf_L2_p x0_0 x0_1 x0_2 x0_3 x0_4 x0_5 x0_6 x0_7 x1_0 x1_1 x1_2 = true ∧ (llf_L2_v x0_0 x0_1 x0_2 x0_3 x0_4 x0_5 x0_6 x0_7 x1_0 x1_1 x1_2).snd = flatL x1_0 x1_1 x1_2 x0_2.length := by
  have hl : (tfm_v x0_0 x0_1 x0_2 x0_3 x0_4 x0_5 x0_6 x0_7).snd.snd.fst.length = x0_2.length := tab_length _ _
  have h := iter_fill (step := llf_L2_step x0_0 x0_1 x0_2 x0_3 x0_4 x0_5 x0_6 x0_7 x1_0 x1_1 x1_2) (n := x0_2.length) (fun _ => [.i x1_0, .i x1_1, .i x1_2]) (l0 := (tfm_v x0_0 x0_1 x0_2 x0_3 x0_4 x0_5 x0_6 x0_7).snd.snd.fst) hl (fun k l hk hl' => by
    have w := wrap_succ (k := k) (by omega)
    have e1 : decide ((k : Int) < ((x0_2.length : Nat) : Int)) = true := decide_eq_true (by omega)
    have e2 : decide ((0 : Int) ≤ k ∧ (k : Int) < ((l.length : Nat) : Int)) = true := decide_eq_true (by omega)
    simp only [llf_L2_step, hl, e1, e2, w, cond_true, Int.toNat_natCast, upd3]
    rfl) (fun l hl' => by simp [llf_L2_step, hl]) rfl
  exact ⟨by unfold llf_L2_p; rw [h]; rfl, by unfold llf_L2_v loopRes; rw [h]; rfl⟩
end
/-! ### Five levels -/
noncomputable def lv (W H : Int) (D N S L : List (List Ct)) : Nat → List (List Ct)
  | 0 => L
  | k + 1 => levT W H (k : Int) D N S (lv W H D N S L k)
theorem lv_len (W H : Int) (D N S L : List (List Ct)) : ∀ k, (lv W H D N S L k).length = L.length
  | 0 => rfl
  | k + 1 => by show (tab _ _).length = _; rw [tab_length]; exact lv_len W H D N S L k
theorem lv_pix {W H : Int} {L D N B S F : List (List Ct)} (f : FilmOk W H L D N B S F) {k : Nat} (hk : k < 5) : PixOk W H (k : Int) D N S (lv W H D N S L k) :=
  ⟨f.w1, f.w2, f.h1, f.h2, decide_eq_true ⟨by omega, by omega⟩, f.d, f.n, f.s, by rw [lv_len]; exact f.l⟩
theorem lv_held {W H : Int} {L D N B S F : List (List Ct)} (f : FilmOk W H L D N B S F) {h : Nat → Int} (hh : ∀ c, c < 3 → 0 ≤ h c ∧ h c ≤ 1048576) (hL : Held3 h h L) : ∀ k : Nat, k ≤ 5 → Held3 (fun c => max 0 (h c - (k : Int))) h (lv W H D N S L k) := by
  intro k
  induction k with
  | zero => intro _ i hi c hc; have := hL i hi c hc; have := hh c hc; show max 0 (h c - ((0 : Nat) : Int)) ≤ (rd L i c).int ∧ (rd L i c).int ≤ h c; omega
  | succ k ih =>
    intro hk
    have := lev_held (lv_pix f (k := k) (by omega)) (fun c hc => by show 0 ≤ max 0 (h c - (k : Int)); omega) (fun c hc => (hh c hc).2) (ih (by omega))
    intro i hi c hc
    have := this i hi c hc
    simp only at this
    show max 0 (h c - ((k + 1 : Nat) : Int)) ≤ (rd (levT W H (k : Int) D N S (lv W H D N S L k)) i c).int ∧ (rd (levT W H (k : Int) D N S (lv W H D N S L k)) i c).int ≤ h c
    omega
theorem lv_B {W H : Int} {L D N B S F : List (List Ct)} (f : FilmOk W H L D N B S F) {k : Nat} (hk : k < 5) : levB W H L D N B S F W H (lv W H D N S L k) (k : Int) = true := by
  have hm := side_mul f.w1 f.w2 f.h1 f.h2
  have hl := lv_len W H D N S L k
  have fl := f.l
  unfold levB sheetR levP
  rw [filmS_true f, hl, wrap_in (by omega) (by omega), decide_eq_true f.w1, decide_eq_true f.w2, decide_eq_true (show H ≥ 1 from f.h1), decide_eq_true f.h2, decide_eq_true (show (0 : Int) ≤ (k : Int) ∧ (k : Int) < 5 by omega), fl]
  simp
def hueAt (a b c : Int) : Nat → Int
  | 0 => a
  | 1 => b
  | _ => c
theorem flat_held (a b c : Int) (n : Nat) : Held3 (hueAt a b c) (hueAt a b c) (flatL a b c n) := by
  intro i hi j hj
  have hi' : i < n := by unfold flatL at hi; rwa [tab_length] at hi
  unfold flatL
  rw [rd_tab hi']
  have hj' : j = 0 ∨ j = 1 ∨ j = 2 := by omega
  rcases hj' with rfl | rfl | rfl <;> exact ⟨Int.le_refl _, Int.le_refl _⟩
section
variable {x0_0 x0_1 : Int} {x0_2 x0_3 x0_4 x0_5 x0_6 x0_7 : List (List Ct)} {x1_0 x1_1 x1_2 : Int}
theorem tf_ok (hf : FilmOk x0_0 x0_1 x0_2 x0_3 x0_4 x0_5 x0_6 x0_7) : FilmOk (tfm_v x0_0 x0_1 x0_2 x0_3 x0_4 x0_5 x0_6 x0_7).fst (tfm_v x0_0 x0_1 x0_2 x0_3 x0_4 x0_5 x0_6 x0_7).snd.fst (llf_L2_v x0_0 x0_1 x0_2 x0_3 x0_4 x0_5 x0_6 x0_7 x1_0 x1_1 x1_2).snd (tfm_v x0_0 x0_1 x0_2 x0_3 x0_4 x0_5 x0_6 x0_7).snd.snd.snd.snd.snd.fst (tfm_v x0_0 x0_1 x0_2 x0_3 x0_4 x0_5 x0_6 x0_7).snd.snd.snd.snd.snd.snd.fst (tfm_v x0_0 x0_1 x0_2 x0_3 x0_4 x0_5 x0_6 x0_7).snd.snd.snd.snd.snd.snd.snd (tfm_v x0_0 x0_1 x0_2 x0_3 x0_4 x0_5 x0_6 x0_7).snd.snd.snd.fst (tfm_v x0_0 x0_1 x0_2 x0_3 x0_4 x0_5 x0_6 x0_7).snd.snd.snd.snd.fst := by
  have hm := side_mul hf.w1 hf.w2 hf.h1 hf.h2
  have fl := hf.l
  have e : (llf_L2_v x0_0 x0_1 x0_2 x0_3 x0_4 x0_5 x0_6 x0_7 x1_0 x1_1 x1_2).snd = flatL x1_0 x1_1 x1_2 x0_2.length := (llf_fill (by omega)).2
  rw [e]
  refine ⟨hf.w1, hf.w2, hf.h1, hf.h2, ?_, ?_, ?_, ?_, hf.s, hf.f, hf.at'⟩
  · unfold flatL; rw [tab_length]; exact hf.l
  · show ((tab _ _).length : Int) = _; rw [tab_length]; exact hf.d
  · show ((tab _ _).length : Int) = _; rw [tab_length]; exact hf.n
  · show ((tab _ _).length : Int) = _; rw [tab_length]; exact hf.b
theorem q_len (hf : FilmOk x0_0 x0_1 x0_2 x0_3 x0_4 x0_5 x0_6 x0_7) : ((levT (tfm_v x0_0 x0_1 x0_2 x0_3 x0_4 x0_5 x0_6 x0_7).fst (tfm_v x0_0 x0_1 x0_2 x0_3 x0_4 x0_5 x0_6 x0_7).snd.fst (4 : Int) (tfm_v x0_0 x0_1 x0_2 x0_3 x0_4 x0_5 x0_6 x0_7).snd.snd.snd.snd.snd.fst (tfm_v x0_0 x0_1 x0_2 x0_3 x0_4 x0_5 x0_6 x0_7).snd.snd.snd.snd.snd.snd.fst (tfm_v x0_0 x0_1 x0_2 x0_3 x0_4 x0_5 x0_6 x0_7).snd.snd.snd.fst (levT (tfm_v x0_0 x0_1 x0_2 x0_3 x0_4 x0_5 x0_6 x0_7).fst (tfm_v x0_0 x0_1 x0_2 x0_3 x0_4 x0_5 x0_6 x0_7).snd.fst (3 : Int) (tfm_v x0_0 x0_1 x0_2 x0_3 x0_4 x0_5 x0_6 x0_7).snd.snd.snd.snd.snd.fst (tfm_v x0_0 x0_1 x0_2 x0_3 x0_4 x0_5 x0_6 x0_7).snd.snd.snd.snd.snd.snd.fst (tfm_v x0_0 x0_1 x0_2 x0_3 x0_4 x0_5 x0_6 x0_7).snd.snd.snd.fst (levT (tfm_v x0_0 x0_1 x0_2 x0_3 x0_4 x0_5 x0_6 x0_7).fst (tfm_v x0_0 x0_1 x0_2 x0_3 x0_4 x0_5 x0_6 x0_7).snd.fst (2 : Int) (tfm_v x0_0 x0_1 x0_2 x0_3 x0_4 x0_5 x0_6 x0_7).snd.snd.snd.snd.snd.fst (tfm_v x0_0 x0_1 x0_2 x0_3 x0_4 x0_5 x0_6 x0_7).snd.snd.snd.snd.snd.snd.fst (tfm_v x0_0 x0_1 x0_2 x0_3 x0_4 x0_5 x0_6 x0_7).snd.snd.snd.fst (levT (tfm_v x0_0 x0_1 x0_2 x0_3 x0_4 x0_5 x0_6 x0_7).fst (tfm_v x0_0 x0_1 x0_2 x0_3 x0_4 x0_5 x0_6 x0_7).snd.fst (1 : Int) (tfm_v x0_0 x0_1 x0_2 x0_3 x0_4 x0_5 x0_6 x0_7).snd.snd.snd.snd.snd.fst (tfm_v x0_0 x0_1 x0_2 x0_3 x0_4 x0_5 x0_6 x0_7).snd.snd.snd.snd.snd.snd.fst (tfm_v x0_0 x0_1 x0_2 x0_3 x0_4 x0_5 x0_6 x0_7).snd.snd.snd.fst (levT (tfm_v x0_0 x0_1 x0_2 x0_3 x0_4 x0_5 x0_6 x0_7).fst (tfm_v x0_0 x0_1 x0_2 x0_3 x0_4 x0_5 x0_6 x0_7).snd.fst (0 : Int) (tfm_v x0_0 x0_1 x0_2 x0_3 x0_4 x0_5 x0_6 x0_7).snd.snd.snd.snd.snd.fst (tfm_v x0_0 x0_1 x0_2 x0_3 x0_4 x0_5 x0_6 x0_7).snd.snd.snd.snd.snd.snd.fst (tfm_v x0_0 x0_1 x0_2 x0_3 x0_4 x0_5 x0_6 x0_7).snd.snd.snd.fst (llf_L2_v x0_0 x0_1 x0_2 x0_3 x0_4 x0_5 x0_6 x0_7 x1_0 x1_1 x1_2).snd)))))).length = x0_2.length := by
  have h := lv_len (tfm_v x0_0 x0_1 x0_2 x0_3 x0_4 x0_5 x0_6 x0_7).fst (tfm_v x0_0 x0_1 x0_2 x0_3 x0_4 x0_5 x0_6 x0_7).snd.fst (tfm_v x0_0 x0_1 x0_2 x0_3 x0_4 x0_5 x0_6 x0_7).snd.snd.snd.snd.snd.fst (tfm_v x0_0 x0_1 x0_2 x0_3 x0_4 x0_5 x0_6 x0_7).snd.snd.snd.snd.snd.snd.fst (tfm_v x0_0 x0_1 x0_2 x0_3 x0_4 x0_5 x0_6 x0_7).snd.snd.snd.fst (llf_L2_v x0_0 x0_1 x0_2 x0_3 x0_4 x0_5 x0_6 x0_7 x1_0 x1_1 x1_2).snd 5
  have a := (tf_ok (x1_0 := x1_0) (x1_1 := x1_1) (x1_2 := x1_2) hf).l
  have b := hf.l
  have : ((levT (tfm_v x0_0 x0_1 x0_2 x0_3 x0_4 x0_5 x0_6 x0_7).fst (tfm_v x0_0 x0_1 x0_2 x0_3 x0_4 x0_5 x0_6 x0_7).snd.fst (4 : Int) (tfm_v x0_0 x0_1 x0_2 x0_3 x0_4 x0_5 x0_6 x0_7).snd.snd.snd.snd.snd.fst (tfm_v x0_0 x0_1 x0_2 x0_3 x0_4 x0_5 x0_6 x0_7).snd.snd.snd.snd.snd.snd.fst (tfm_v x0_0 x0_1 x0_2 x0_3 x0_4 x0_5 x0_6 x0_7).snd.snd.snd.fst (levT (tfm_v x0_0 x0_1 x0_2 x0_3 x0_4 x0_5 x0_6 x0_7).fst (tfm_v x0_0 x0_1 x0_2 x0_3 x0_4 x0_5 x0_6 x0_7).snd.fst (3 : Int) (tfm_v x0_0 x0_1 x0_2 x0_3 x0_4 x0_5 x0_6 x0_7).snd.snd.snd.snd.snd.fst (tfm_v x0_0 x0_1 x0_2 x0_3 x0_4 x0_5 x0_6 x0_7).snd.snd.snd.snd.snd.snd.fst (tfm_v x0_0 x0_1 x0_2 x0_3 x0_4 x0_5 x0_6 x0_7).snd.snd.snd.fst (levT (tfm_v x0_0 x0_1 x0_2 x0_3 x0_4 x0_5 x0_6 x0_7).fst (tfm_v x0_0 x0_1 x0_2 x0_3 x0_4 x0_5 x0_6 x0_7).snd.fst (2 : Int) (tfm_v x0_0 x0_1 x0_2 x0_3 x0_4 x0_5 x0_6 x0_7).snd.snd.snd.snd.snd.fst (tfm_v x0_0 x0_1 x0_2 x0_3 x0_4 x0_5 x0_6 x0_7).snd.snd.snd.snd.snd.snd.fst (tfm_v x0_0 x0_1 x0_2 x0_3 x0_4 x0_5 x0_6 x0_7).snd.snd.snd.fst (levT (tfm_v x0_0 x0_1 x0_2 x0_3 x0_4 x0_5 x0_6 x0_7).fst (tfm_v x0_0 x0_1 x0_2 x0_3 x0_4 x0_5 x0_6 x0_7).snd.fst (1 : Int) (tfm_v x0_0 x0_1 x0_2 x0_3 x0_4 x0_5 x0_6 x0_7).snd.snd.snd.snd.snd.fst (tfm_v x0_0 x0_1 x0_2 x0_3 x0_4 x0_5 x0_6 x0_7).snd.snd.snd.snd.snd.snd.fst (tfm_v x0_0 x0_1 x0_2 x0_3 x0_4 x0_5 x0_6 x0_7).snd.snd.snd.fst (levT (tfm_v x0_0 x0_1 x0_2 x0_3 x0_4 x0_5 x0_6 x0_7).fst (tfm_v x0_0 x0_1 x0_2 x0_3 x0_4 x0_5 x0_6 x0_7).snd.fst (0 : Int) (tfm_v x0_0 x0_1 x0_2 x0_3 x0_4 x0_5 x0_6 x0_7).snd.snd.snd.snd.snd.fst (tfm_v x0_0 x0_1 x0_2 x0_3 x0_4 x0_5 x0_6 x0_7).snd.snd.snd.snd.snd.snd.fst (tfm_v x0_0 x0_1 x0_2 x0_3 x0_4 x0_5 x0_6 x0_7).snd.snd.snd.fst (llf_L2_v x0_0 x0_1 x0_2 x0_3 x0_4 x0_5 x0_6 x0_7 x1_0 x1_1 x1_2).snd)))))).length = ((llf_L2_v x0_0 x0_1 x0_2 x0_3 x0_4 x0_5 x0_6 x0_7 x1_0 x1_1 x1_2).snd).length := h
  have e : ((llf_L2_v x0_0 x0_1 x0_2 x0_3 x0_4 x0_5 x0_6 x0_7 x1_0 x1_1 x1_2).snd).length = x0_2.length := by
    have : ((((llf_L2_v x0_0 x0_1 x0_2 x0_3 x0_4 x0_5 x0_6 x0_7 x1_0 x1_1 x1_2).snd).length : Nat) : Int) = ((x0_2.length : Nat) : Int) := by rw [b]; exact a
    exact Int.ofNat.inj this
  rw [this, e]
theorem q_held (hf : FilmOk x0_0 x0_1 x0_2 x0_3 x0_4 x0_5 x0_6 x0_7) (hh : ∀ c, c < 3 → 0 ≤ hueAt x1_0 x1_1 x1_2 c ∧ hueAt x1_0 x1_1 x1_2 c ≤ 1048576) : Held3 (fun c => max 0 (hueAt x1_0 x1_1 x1_2 c - 5)) (hueAt x1_0 x1_1 x1_2) (levT (tfm_v x0_0 x0_1 x0_2 x0_3 x0_4 x0_5 x0_6 x0_7).fst (tfm_v x0_0 x0_1 x0_2 x0_3 x0_4 x0_5 x0_6 x0_7).snd.fst (4 : Int) (tfm_v x0_0 x0_1 x0_2 x0_3 x0_4 x0_5 x0_6 x0_7).snd.snd.snd.snd.snd.fst (tfm_v x0_0 x0_1 x0_2 x0_3 x0_4 x0_5 x0_6 x0_7).snd.snd.snd.snd.snd.snd.fst (tfm_v x0_0 x0_1 x0_2 x0_3 x0_4 x0_5 x0_6 x0_7).snd.snd.snd.fst (levT (tfm_v x0_0 x0_1 x0_2 x0_3 x0_4 x0_5 x0_6 x0_7).fst (tfm_v x0_0 x0_1 x0_2 x0_3 x0_4 x0_5 x0_6 x0_7).snd.fst (3 : Int) (tfm_v x0_0 x0_1 x0_2 x0_3 x0_4 x0_5 x0_6 x0_7).snd.snd.snd.snd.snd.fst (tfm_v x0_0 x0_1 x0_2 x0_3 x0_4 x0_5 x0_6 x0_7).snd.snd.snd.snd.snd.snd.fst (tfm_v x0_0 x0_1 x0_2 x0_3 x0_4 x0_5 x0_6 x0_7).snd.snd.snd.fst (levT (tfm_v x0_0 x0_1 x0_2 x0_3 x0_4 x0_5 x0_6 x0_7).fst (tfm_v x0_0 x0_1 x0_2 x0_3 x0_4 x0_5 x0_6 x0_7).snd.fst (2 : Int) (tfm_v x0_0 x0_1 x0_2 x0_3 x0_4 x0_5 x0_6 x0_7).snd.snd.snd.snd.snd.fst (tfm_v x0_0 x0_1 x0_2 x0_3 x0_4 x0_5 x0_6 x0_7).snd.snd.snd.snd.snd.snd.fst (tfm_v x0_0 x0_1 x0_2 x0_3 x0_4 x0_5 x0_6 x0_7).snd.snd.snd.fst (levT (tfm_v x0_0 x0_1 x0_2 x0_3 x0_4 x0_5 x0_6 x0_7).fst (tfm_v x0_0 x0_1 x0_2 x0_3 x0_4 x0_5 x0_6 x0_7).snd.fst (1 : Int) (tfm_v x0_0 x0_1 x0_2 x0_3 x0_4 x0_5 x0_6 x0_7).snd.snd.snd.snd.snd.fst (tfm_v x0_0 x0_1 x0_2 x0_3 x0_4 x0_5 x0_6 x0_7).snd.snd.snd.snd.snd.snd.fst (tfm_v x0_0 x0_1 x0_2 x0_3 x0_4 x0_5 x0_6 x0_7).snd.snd.snd.fst (levT (tfm_v x0_0 x0_1 x0_2 x0_3 x0_4 x0_5 x0_6 x0_7).fst (tfm_v x0_0 x0_1 x0_2 x0_3 x0_4 x0_5 x0_6 x0_7).snd.fst (0 : Int) (tfm_v x0_0 x0_1 x0_2 x0_3 x0_4 x0_5 x0_6 x0_7).snd.snd.snd.snd.snd.fst (tfm_v x0_0 x0_1 x0_2 x0_3 x0_4 x0_5 x0_6 x0_7).snd.snd.snd.snd.snd.snd.fst (tfm_v x0_0 x0_1 x0_2 x0_3 x0_4 x0_5 x0_6 x0_7).snd.snd.snd.fst (llf_L2_v x0_0 x0_1 x0_2 x0_3 x0_4 x0_5 x0_6 x0_7 x1_0 x1_1 x1_2).snd))))) := by
  have hm := side_mul hf.w1 hf.w2 hf.h1 hf.h2
  have fl := hf.l
  have e : (llf_L2_v x0_0 x0_1 x0_2 x0_3 x0_4 x0_5 x0_6 x0_7 x1_0 x1_1 x1_2).snd = flatL x1_0 x1_1 x1_2 x0_2.length := (llf_fill (by omega)).2
  have t := tf_ok (x1_0 := x1_0) (x1_1 := x1_1) (x1_2 := x1_2) hf
  have h0 : Held3 (hueAt x1_0 x1_1 x1_2) (hueAt x1_0 x1_1 x1_2) (llf_L2_v x0_0 x0_1 x0_2 x0_3 x0_4 x0_5 x0_6 x0_7 x1_0 x1_1 x1_2).snd := by rw [e]; exact flat_held _ _ _ _
  have := lv_held t hh h0 5 (Nat.le_refl _)
  exact this
theorem llf_L6_is (hf : FilmOk x0_0 x0_1 x0_2 x0_3 x0_4 x0_5 x0_6 x0_7) (hh : ∀ c, c < 3 → 0 ≤ hueAt x1_0 x1_1 x1_2 c ∧ hueAt x1_0 x1_1 x1_2 c ≤ 1048576) {k : Nat} (hk : k < x0_2.length) : llf_L6_p x0_0 x0_1 x0_2 x0_3 x0_4 x0_5 x0_6 x0_7 x1_0 x1_1 x1_2 (k : Int) = true ∧ isL (llf_L6_v x0_0 x0_1 x0_2 x0_3 x0_4 x0_5 x0_6 x0_7 x1_0 x1_1 x1_2 (k : Int)) = true := by
  have w1 : IntKind.i64.wrap (1 : Int) = 1 := by decide
  have w2 : IntKind.i64.wrap (2 : Int) = 2 := by decide
  have w3 : IntKind.i64.wrap (3 : Int) = 3 := by decide
  have hq := q_held hf hh
  have hl := q_len (x1_0 := x1_0) (x1_1 := x1_1) (x1_2 := x1_2) hf
  have g0 := hq k (by omega) 0 (by omega)
  have g1 := hq k (by omega) 1 (by omega)
  have g2 := hq k (by omega) 2 (by omega)
  have b0 := hh 0 (by omega)
  have b1 := hh 1 (by omega)
  have b2 := hh 2 (by omega)
  have ec : llf_c13510277 x0_0 x0_1 x0_2 x0_3 x0_4 x0_5 x0_6 x0_7 x1_0 x1_1 x1_2 (k : Int) = ((rd (levT (tfm_v x0_0 x0_1 x0_2 x0_3 x0_4 x0_5 x0_6 x0_7).fst (tfm_v x0_0 x0_1 x0_2 x0_3 x0_4 x0_5 x0_6 x0_7).snd.fst (4 : Int) (tfm_v x0_0 x0_1 x0_2 x0_3 x0_4 x0_5 x0_6 x0_7).snd.snd.snd.snd.snd.fst (tfm_v x0_0 x0_1 x0_2 x0_3 x0_4 x0_5 x0_6 x0_7).snd.snd.snd.snd.snd.snd.fst (tfm_v x0_0 x0_1 x0_2 x0_3 x0_4 x0_5 x0_6 x0_7).snd.snd.snd.fst (levT (tfm_v x0_0 x0_1 x0_2 x0_3 x0_4 x0_5 x0_6 x0_7).fst (tfm_v x0_0 x0_1 x0_2 x0_3 x0_4 x0_5 x0_6 x0_7).snd.fst (3 : Int) (tfm_v x0_0 x0_1 x0_2 x0_3 x0_4 x0_5 x0_6 x0_7).snd.snd.snd.snd.snd.fst (tfm_v x0_0 x0_1 x0_2 x0_3 x0_4 x0_5 x0_6 x0_7).snd.snd.snd.snd.snd.snd.fst (tfm_v x0_0 x0_1 x0_2 x0_3 x0_4 x0_5 x0_6 x0_7).snd.snd.snd.fst (levT (tfm_v x0_0 x0_1 x0_2 x0_3 x0_4 x0_5 x0_6 x0_7).fst (tfm_v x0_0 x0_1 x0_2 x0_3 x0_4 x0_5 x0_6 x0_7).snd.fst (2 : Int) (tfm_v x0_0 x0_1 x0_2 x0_3 x0_4 x0_5 x0_6 x0_7).snd.snd.snd.snd.snd.fst (tfm_v x0_0 x0_1 x0_2 x0_3 x0_4 x0_5 x0_6 x0_7).snd.snd.snd.snd.snd.snd.fst (tfm_v x0_0 x0_1 x0_2 x0_3 x0_4 x0_5 x0_6 x0_7).snd.snd.snd.fst (levT (tfm_v x0_0 x0_1 x0_2 x0_3 x0_4 x0_5 x0_6 x0_7).fst (tfm_v x0_0 x0_1 x0_2 x0_3 x0_4 x0_5 x0_6 x0_7).snd.fst (1 : Int) (tfm_v x0_0 x0_1 x0_2 x0_3 x0_4 x0_5 x0_6 x0_7).snd.snd.snd.snd.snd.fst (tfm_v x0_0 x0_1 x0_2 x0_3 x0_4 x0_5 x0_6 x0_7).snd.snd.snd.snd.snd.snd.fst (tfm_v x0_0 x0_1 x0_2 x0_3 x0_4 x0_5 x0_6 x0_7).snd.snd.snd.fst (levT (tfm_v x0_0 x0_1 x0_2 x0_3 x0_4 x0_5 x0_6 x0_7).fst (tfm_v x0_0 x0_1 x0_2 x0_3 x0_4 x0_5 x0_6 x0_7).snd.fst (0 : Int) (tfm_v x0_0 x0_1 x0_2 x0_3 x0_4 x0_5 x0_6 x0_7).snd.snd.snd.snd.snd.fst (tfm_v x0_0 x0_1 x0_2 x0_3 x0_4 x0_5 x0_6 x0_7).snd.snd.snd.snd.snd.snd.fst (tfm_v x0_0 x0_1 x0_2 x0_3 x0_4 x0_5 x0_6 x0_7).snd.snd.snd.fst (llf_L2_v x0_0 x0_1 x0_2 x0_3 x0_4 x0_5 x0_6 x0_7 x1_0 x1_1 x1_2).snd))))) k 0).int, (rd (levT (tfm_v x0_0 x0_1 x0_2 x0_3 x0_4 x0_5 x0_6 x0_7).fst (tfm_v x0_0 x0_1 x0_2 x0_3 x0_4 x0_5 x0_6 x0_7).snd.fst (4 : Int) (tfm_v x0_0 x0_1 x0_2 x0_3 x0_4 x0_5 x0_6 x0_7).snd.snd.snd.snd.snd.fst (tfm_v x0_0 x0_1 x0_2 x0_3 x0_4 x0_5 x0_6 x0_7).snd.snd.snd.snd.snd.snd.fst (tfm_v x0_0 x0_1 x0_2 x0_3 x0_4 x0_5 x0_6 x0_7).snd.snd.snd.fst (levT (tfm_v x0_0 x0_1 x0_2 x0_3 x0_4 x0_5 x0_6 x0_7).fst (tfm_v x0_0 x0_1 x0_2 x0_3 x0_4 x0_5 x0_6 x0_7).snd.fst (3 : Int) (tfm_v x0_0 x0_1 x0_2 x0_3 x0_4 x0_5 x0_6 x0_7).snd.snd.snd.snd.snd.fst (tfm_v x0_0 x0_1 x0_2 x0_3 x0_4 x0_5 x0_6 x0_7).snd.snd.snd.snd.snd.snd.fst (tfm_v x0_0 x0_1 x0_2 x0_3 x0_4 x0_5 x0_6 x0_7).snd.snd.snd.fst (levT (tfm_v x0_0 x0_1 x0_2 x0_3 x0_4 x0_5 x0_6 x0_7).fst (tfm_v x0_0 x0_1 x0_2 x0_3 x0_4 x0_5 x0_6 x0_7).snd.fst (2 : Int) (tfm_v x0_0 x0_1 x0_2 x0_3 x0_4 x0_5 x0_6 x0_7).snd.snd.snd.snd.snd.fst (tfm_v x0_0 x0_1 x0_2 x0_3 x0_4 x0_5 x0_6 x0_7).snd.snd.snd.snd.snd.snd.fst (tfm_v x0_0 x0_1 x0_2 x0_3 x0_4 x0_5 x0_6 x0_7).snd.snd.snd.fst (levT (tfm_v x0_0 x0_1 x0_2 x0_3 x0_4 x0_5 x0_6 x0_7).fst (tfm_v x0_0 x0_1 x0_2 x0_3 x0_4 x0_5 x0_6 x0_7).snd.fst (1 : Int) (tfm_v x0_0 x0_1 x0_2 x0_3 x0_4 x0_5 x0_6 x0_7).snd.snd.snd.snd.snd.fst (tfm_v x0_0 x0_1 x0_2 x0_3 x0_4 x0_5 x0_6 x0_7).snd.snd.snd.snd.snd.snd.fst (tfm_v x0_0 x0_1 x0_2 x0_3 x0_4 x0_5 x0_6 x0_7).snd.snd.snd.fst (levT (tfm_v x0_0 x0_1 x0_2 x0_3 x0_4 x0_5 x0_6 x0_7).fst (tfm_v x0_0 x0_1 x0_2 x0_3 x0_4 x0_5 x0_6 x0_7).snd.fst (0 : Int) (tfm_v x0_0 x0_1 x0_2 x0_3 x0_4 x0_5 x0_6 x0_7).snd.snd.snd.snd.snd.fst (tfm_v x0_0 x0_1 x0_2 x0_3 x0_4 x0_5 x0_6 x0_7).snd.snd.snd.snd.snd.snd.fst (tfm_v x0_0 x0_1 x0_2 x0_3 x0_4 x0_5 x0_6 x0_7).snd.snd.snd.fst (llf_L2_v x0_0 x0_1 x0_2 x0_3 x0_4 x0_5 x0_6 x0_7 x1_0 x1_1 x1_2).snd))))) k 1).int, (rd (levT (tfm_v x0_0 x0_1 x0_2 x0_3 x0_4 x0_5 x0_6 x0_7).fst (tfm_v x0_0 x0_1 x0_2 x0_3 x0_4 x0_5 x0_6 x0_7).snd.fst (4 : Int) (tfm_v x0_0 x0_1 x0_2 x0_3 x0_4 x0_5 x0_6 x0_7).snd.snd.snd.snd.snd.fst (tfm_v x0_0 x0_1 x0_2 x0_3 x0_4 x0_5 x0_6 x0_7).snd.snd.snd.snd.snd.snd.fst (tfm_v x0_0 x0_1 x0_2 x0_3 x0_4 x0_5 x0_6 x0_7).snd.snd.snd.fst (levT (tfm_v x0_0 x0_1 x0_2 x0_3 x0_4 x0_5 x0_6 x0_7).fst (tfm_v x0_0 x0_1 x0_2 x0_3 x0_4 x0_5 x0_6 x0_7).snd.fst (3 : Int) (tfm_v x0_0 x0_1 x0_2 x0_3 x0_4 x0_5 x0_6 x0_7).snd.snd.snd.snd.snd.fst (tfm_v x0_0 x0_1 x0_2 x0_3 x0_4 x0_5 x0_6 x0_7).snd.snd.snd.snd.snd.snd.fst (tfm_v x0_0 x0_1 x0_2 x0_3 x0_4 x0_5 x0_6 x0_7).snd.snd.snd.fst (levT (tfm_v x0_0 x0_1 x0_2 x0_3 x0_4 x0_5 x0_6 x0_7).fst (tfm_v x0_0 x0_1 x0_2 x0_3 x0_4 x0_5 x0_6 x0_7).snd.fst (2 : Int) (tfm_v x0_0 x0_1 x0_2 x0_3 x0_4 x0_5 x0_6 x0_7).snd.snd.snd.snd.snd.fst (tfm_v x0_0 x0_1 x0_2 x0_3 x0_4 x0_5 x0_6 x0_7).snd.snd.snd.snd.snd.snd.fst (tfm_v x0_0 x0_1 x0_2 x0_3 x0_4 x0_5 x0_6 x0_7).snd.snd.snd.fst (levT (tfm_v x0_0 x0_1 x0_2 x0_3 x0_4 x0_5 x0_6 x0_7).fst (tfm_v x0_0 x0_1 x0_2 x0_3 x0_4 x0_5 x0_6 x0_7).snd.fst (1 : Int) (tfm_v x0_0 x0_1 x0_2 x0_3 x0_4 x0_5 x0_6 x0_7).snd.snd.snd.snd.snd.fst (tfm_v x0_0 x0_1 x0_2 x0_3 x0_4 x0_5 x0_6 x0_7).snd.snd.snd.snd.snd.snd.fst (tfm_v x0_0 x0_1 x0_2 x0_3 x0_4 x0_5 x0_6 x0_7).snd.snd.snd.fst (levT (tfm_v x0_0 x0_1 x0_2 x0_3 x0_4 x0_5 x0_6 x0_7).fst (tfm_v x0_0 x0_1 x0_2 x0_3 x0_4 x0_5 x0_6 x0_7).snd.fst (0 : Int) (tfm_v x0_0 x0_1 x0_2 x0_3 x0_4 x0_5 x0_6 x0_7).snd.snd.snd.snd.snd.fst (tfm_v x0_0 x0_1 x0_2 x0_3 x0_4 x0_5 x0_6 x0_7).snd.snd.snd.snd.snd.snd.fst (tfm_v x0_0 x0_1 x0_2 x0_3 x0_4 x0_5 x0_6 x0_7).snd.snd.snd.fst (llf_L2_v x0_0 x0_1 x0_2 x0_3 x0_4 x0_5 x0_6 x0_7 x1_0 x1_1 x1_2).snd))))) k 2).int) := rfl
  generalize (rd (levT (tfm_v x0_0 x0_1 x0_2 x0_3 x0_4 x0_5 x0_6 x0_7).fst (tfm_v x0_0 x0_1 x0_2 x0_3 x0_4 x0_5 x0_6 x0_7).snd.fst (4 : Int) (tfm_v x0_0 x0_1 x0_2 x0_3 x0_4 x0_5 x0_6 x0_7).snd.snd.snd.snd.snd.fst (tfm_v x0_0 x0_1 x0_2 x0_3 x0_4 x0_5 x0_6 x0_7).snd.snd.snd.snd.snd.snd.fst (tfm_v x0_0 x0_1 x0_2 x0_3 x0_4 x0_5 x0_6 x0_7).snd.snd.snd.fst (levT (tfm_v x0_0 x0_1 x0_2 x0_3 x0_4 x0_5 x0_6 x0_7).fst (tfm_v x0_0 x0_1 x0_2 x0_3 x0_4 x0_5 x0_6 x0_7).snd.fst (3 : Int) (tfm_v x0_0 x0_1 x0_2 x0_3 x0_4 x0_5 x0_6 x0_7).snd.snd.snd.snd.snd.fst (tfm_v x0_0 x0_1 x0_2 x0_3 x0_4 x0_5 x0_6 x0_7).snd.snd.snd.snd.snd.snd.fst (tfm_v x0_0 x0_1 x0_2 x0_3 x0_4 x0_5 x0_6 x0_7).snd.snd.snd.fst (levT (tfm_v x0_0 x0_1 x0_2 x0_3 x0_4 x0_5 x0_6 x0_7).fst (tfm_v x0_0 x0_1 x0_2 x0_3 x0_4 x0_5 x0_6 x0_7).snd.fst (2 : Int) (tfm_v x0_0 x0_1 x0_2 x0_3 x0_4 x0_5 x0_6 x0_7).snd.snd.snd.snd.snd.fst (tfm_v x0_0 x0_1 x0_2 x0_3 x0_4 x0_5 x0_6 x0_7).snd.snd.snd.snd.snd.snd.fst (tfm_v x0_0 x0_1 x0_2 x0_3 x0_4 x0_5 x0_6 x0_7).snd.snd.snd.fst (levT (tfm_v x0_0 x0_1 x0_2 x0_3 x0_4 x0_5 x0_6 x0_7).fst (tfm_v x0_0 x0_1 x0_2 x0_3 x0_4 x0_5 x0_6 x0_7).snd.fst (1 : Int) (tfm_v x0_0 x0_1 x0_2 x0_3 x0_4 x0_5 x0_6 x0_7).snd.snd.snd.snd.snd.fst (tfm_v x0_0 x0_1 x0_2 x0_3 x0_4 x0_5 x0_6 x0_7).snd.snd.snd.snd.snd.snd.fst (tfm_v x0_0 x0_1 x0_2 x0_3 x0_4 x0_5 x0_6 x0_7).snd.snd.snd.fst (levT (tfm_v x0_0 x0_1 x0_2 x0_3 x0_4 x0_5 x0_6 x0_7).fst (tfm_v x0_0 x0_1 x0_2 x0_3 x0_4 x0_5 x0_6 x0_7).snd.fst (0 : Int) (tfm_v x0_0 x0_1 x0_2 x0_3 x0_4 x0_5 x0_6 x0_7).snd.snd.snd.snd.snd.fst (tfm_v x0_0 x0_1 x0_2 x0_3 x0_4 x0_5 x0_6 x0_7).snd.snd.snd.snd.snd.snd.fst (tfm_v x0_0 x0_1 x0_2 x0_3 x0_4 x0_5 x0_6 x0_7).snd.snd.snd.fst (llf_L2_v x0_0 x0_1 x0_2 x0_3 x0_4 x0_5 x0_6 x0_7 x1_0 x1_1 x1_2).snd))))) k 0).int = p0 at *
  generalize (rd (levT (tfm_v x0_0 x0_1 x0_2 x0_3 x0_4 x0_5 x0_6 x0_7).fst (tfm_v x0_0 x0_1 x0_2 x0_3 x0_4 x0_5 x0_6 x0_7).snd.fst (4 : Int) (tfm_v x0_0 x0_1 x0_2 x0_3 x0_4 x0_5 x0_6 x0_7).snd.snd.snd.snd.snd.fst (tfm_v x0_0 x0_1 x0_2 x0_3 x0_4 x0_5 x0_6 x0_7).snd.snd.snd.snd.snd.snd.fst (tfm_v x0_0 x0_1 x0_2 x0_3 x0_4 x0_5 x0_6 x0_7).snd.snd.snd.fst (levT (tfm_v x0_0 x0_1 x0_2 x0_3 x0_4 x0_5 x0_6 x0_7).fst (tfm_v x0_0 x0_1 x0_2 x0_3 x0_4 x0_5 x0_6 x0_7).snd.fst (3 : Int) (tfm_v x0_0 x0_1 x0_2 x0_3 x0_4 x0_5 x0_6 x0_7).snd.snd.snd.snd.snd.fst (tfm_v x0_0 x0_1 x0_2 x0_3 x0_4 x0_5 x0_6 x0_7).snd.snd.snd.snd.snd.snd.fst (tfm_v x0_0 x0_1 x0_2 x0_3 x0_4 x0_5 x0_6 x0_7).snd.snd.snd.fst (levT (tfm_v x0_0 x0_1 x0_2 x0_3 x0_4 x0_5 x0_6 x0_7).fst (tfm_v x0_0 x0_1 x0_2 x0_3 x0_4 x0_5 x0_6 x0_7).snd.fst (2 : Int) (tfm_v x0_0 x0_1 x0_2 x0_3 x0_4 x0_5 x0_6 x0_7).snd.snd.snd.snd.snd.fst (tfm_v x0_0 x0_1 x0_2 x0_3 x0_4 x0_5 x0_6 x0_7).snd.snd.snd.snd.snd.snd.fst (tfm_v x0_0 x0_1 x0_2 x0_3 x0_4 x0_5 x0_6 x0_7).snd.snd.snd.fst (levT (tfm_v x0_0 x0_1 x0_2 x0_3 x0_4 x0_5 x0_6 x0_7).fst (tfm_v x0_0 x0_1 x0_2 x0_3 x0_4 x0_5 x0_6 x0_7).snd.fst (1 : Int) (tfm_v x0_0 x0_1 x0_2 x0_3 x0_4 x0_5 x0_6 x0_7).snd.snd.snd.snd.snd.fst (tfm_v x0_0 x0_1 x0_2 x0_3 x0_4 x0_5 x0_6 x0_7).snd.snd.snd.snd.snd.snd.fst (tfm_v x0_0 x0_1 x0_2 x0_3 x0_4 x0_5 x0_6 x0_7).snd.snd.snd.fst (levT (tfm_v x0_0 x0_1 x0_2 x0_3 x0_4 x0_5 x0_6 x0_7).fst (tfm_v x0_0 x0_1 x0_2 x0_3 x0_4 x0_5 x0_6 x0_7).snd.fst (0 : Int) (tfm_v x0_0 x0_1 x0_2 x0_3 x0_4 x0_5 x0_6 x0_7).snd.snd.snd.snd.snd.fst (tfm_v x0_0 x0_1 x0_2 x0_3 x0_4 x0_5 x0_6 x0_7).snd.snd.snd.snd.snd.snd.fst (tfm_v x0_0 x0_1 x0_2 x0_3 x0_4 x0_5 x0_6 x0_7).snd.snd.snd.fst (llf_L2_v x0_0 x0_1 x0_2 x0_3 x0_4 x0_5 x0_6 x0_7 x1_0 x1_1 x1_2).snd))))) k 1).int = p1 at *
  generalize (rd (levT (tfm_v x0_0 x0_1 x0_2 x0_3 x0_4 x0_5 x0_6 x0_7).fst (tfm_v x0_0 x0_1 x0_2 x0_3 x0_4 x0_5 x0_6 x0_7).snd.fst (4 : Int) (tfm_v x0_0 x0_1 x0_2 x0_3 x0_4 x0_5 x0_6 x0_7).snd.snd.snd.snd.snd.fst (tfm_v x0_0 x0_1 x0_2 x0_3 x0_4 x0_5 x0_6 x0_7).snd.snd.snd.snd.snd.snd.fst (tfm_v x0_0 x0_1 x0_2 x0_3 x0_4 x0_5 x0_6 x0_7).snd.snd.snd.fst (levT (tfm_v x0_0 x0_1 x0_2 x0_3 x0_4 x0_5 x0_6 x0_7).fst (tfm_v x0_0 x0_1 x0_2 x0_3 x0_4 x0_5 x0_6 x0_7).snd.fst (3 : Int) (tfm_v x0_0 x0_1 x0_2 x0_3 x0_4 x0_5 x0_6 x0_7).snd.snd.snd.snd.snd.fst (tfm_v x0_0 x0_1 x0_2 x0_3 x0_4 x0_5 x0_6 x0_7).snd.snd.snd.snd.snd.snd.fst (tfm_v x0_0 x0_1 x0_2 x0_3 x0_4 x0_5 x0_6 x0_7).snd.snd.snd.fst (levT (tfm_v x0_0 x0_1 x0_2 x0_3 x0_4 x0_5 x0_6 x0_7).fst (tfm_v x0_0 x0_1 x0_2 x0_3 x0_4 x0_5 x0_6 x0_7).snd.fst (2 : Int) (tfm_v x0_0 x0_1 x0_2 x0_3 x0_4 x0_5 x0_6 x0_7).snd.snd.snd.snd.snd.fst (tfm_v x0_0 x0_1 x0_2 x0_3 x0_4 x0_5 x0_6 x0_7).snd.snd.snd.snd.snd.snd.fst (tfm_v x0_0 x0_1 x0_2 x0_3 x0_4 x0_5 x0_6 x0_7).snd.snd.snd.fst (levT (tfm_v x0_0 x0_1 x0_2 x0_3 x0_4 x0_5 x0_6 x0_7).fst (tfm_v x0_0 x0_1 x0_2 x0_3 x0_4 x0_5 x0_6 x0_7).snd.fst (1 : Int) (tfm_v x0_0 x0_1 x0_2 x0_3 x0_4 x0_5 x0_6 x0_7).snd.snd.snd.snd.snd.fst (tfm_v x0_0 x0_1 x0_2 x0_3 x0_4 x0_5 x0_6 x0_7).snd.snd.snd.snd.snd.snd.fst (tfm_v x0_0 x0_1 x0_2 x0_3 x0_4 x0_5 x0_6 x0_7).snd.snd.snd.fst (levT (tfm_v x0_0 x0_1 x0_2 x0_3 x0_4 x0_5 x0_6 x0_7).fst (tfm_v x0_0 x0_1 x0_2 x0_3 x0_4 x0_5 x0_6 x0_7).snd.fst (0 : Int) (tfm_v x0_0 x0_1 x0_2 x0_3 x0_4 x0_5 x0_6 x0_7).snd.snd.snd.snd.snd.fst (tfm_v x0_0 x0_1 x0_2 x0_3 x0_4 x0_5 x0_6 x0_7).snd.snd.snd.snd.snd.snd.fst (tfm_v x0_0 x0_1 x0_2 x0_3 x0_4 x0_5 x0_6 x0_7).snd.snd.snd.fst (llf_L2_v x0_0 x0_1 x0_2 x0_3 x0_4 x0_5 x0_6 x0_7 x1_0 x1_1 x1_2).snd))))) k 2).int = p2 at *
  simp only [hueAt] at g0 g1 g2 b0 b1 b2
  have n0 : ¬ (p0 > x1_0) := by omega
  have n1 : ¬ (p1 > x1_1) := by omega
  have n2 : ¬ (p2 > x1_2) := by omega
  have v0 : IntKind.i64.wrap (x1_0 - 5) = x1_0 - 5 := wrap_in (by omega) (by omega)
  have v1 : IntKind.i64.wrap (x1_1 - 5) = x1_1 - 5 := wrap_in (by omega) (by omega)
  have v2 : IntKind.i64.wrap (x1_2 - 5) = x1_2 - 5 := wrap_in (by omega) (by omega)
  have m0 : ¬ (p0 < x1_0 - 5) := by omega
  have m1 : ¬ (p1 < x1_1 - 5) := by omega
  have m2 : ¬ (p2 < x1_2 - 5) := by omega
  have key : iter (llf_L6_step x0_0 x0_1 x0_2 x0_3 x0_4 x0_5 x0_6 x0_7 x1_0 x1_1 x1_2 (k : Int)) 4 0 = some (.inl 3) := by
    simp [iter, llf_L6_step, ec, n0, n1, n2, m0, m1, m2, v0, v1, v2, w1, w2, w3]
  exact ⟨by unfold llf_L6_p; rw [key]; rfl, by unfold llf_L6_v; rw [key]; rfl⟩
theorem llf_L4_is (hf : FilmOk x0_0 x0_1 x0_2 x0_3 x0_4 x0_5 x0_6 x0_7) (hh : ∀ c, c < 3 → 0 ≤ hueAt x1_0 x1_1 x1_2 c ∧ hueAt x1_0 x1_1 x1_2 c ≤ 1048576) : llf_L4_p x0_0 x0_1 x0_2 x0_3 x0_4 x0_5 x0_6 x0_7 x1_0 x1_1 x1_2 = true ∧ isL (llf_L4_v x0_0 x0_1 x0_2 x0_3 x0_4 x0_5 x0_6 x0_7 x1_0 x1_1 x1_2) = true := by
  have hm := side_mul hf.w1 hf.w2 hf.h1 hf.h2
  have fl := hf.l
  have hl := q_len (x1_0 := x1_0) (x1_1 := x1_1) (x1_2 := x1_2) hf
  obtain ⟨r, h1, h2⟩ := iter_chk (step := llf_L4_step x0_0 x0_1 x0_2 x0_3 x0_4 x0_5 x0_6 x0_7 x1_0 x1_1 x1_2) (n := x0_2.length) (m := x0_2.length + 1) (c := fun _ => True) (fun k hk => ⟨fun _ => by
      have w := wrap_succ (k := k) (by omega)
      have e1 : decide ((k : Int) < ((x0_2.length : Nat) : Int)) = true := decide_eq_true (by omega)
      have e2 : decide ((0 : Int) ≤ k ∧ (k : Int) < ((x0_2.length : Nat) : Int)) = true := decide_eq_true (by omega)
      obtain ⟨p, q⟩ := llf_L6_is hf hh hk
      simp only [llf_L4_step, hl, e1, e2, p, q, w, cond_true]
      rfl, fun h => absurd trivial h⟩) (by simp [llf_L4_step, hl]) (by omega)
  exact ⟨by unfold llf_L4_p; rw [h1]; rfl, by unfold llf_L4_v; rw [h1]; exact h2.2 fun _ _ => trivial⟩
theorem llf_true {gT : List (List Ct)} (hg : gtB gT = true) : llf_res gT x0_0 x0_1 x0_2 x0_3 x0_4 x0_5 x0_6 x0_7 x1_0 x1_1 x1_2 = some true := by
  have aw : awk_v gT = true := rfl
  unfold llf_res
  cases hr : rfright_v x0_0 x0_1 x0_2 x0_3 x0_4 x0_5 x0_6 x0_7 with
  | false => rw [hg, aw]; simp
  | true =>
    have hf : FilmOk x0_0 x0_1 x0_2 x0_3 x0_4 x0_5 x0_6 x0_7 := filmS_iff.1 hr
    have hm := side_mul hf.w1 hf.w2 hf.h1 hf.h2
    have fl := hf.l
    have fd := hf.d
    have fn := hf.n
    have fb := hf.b
    have fs := hf.s
    have ff := hf.f
    have l0 := llf_L0_is hg x1_0 x1_1 x1_2
    rw [l0.1, l0.2, hg, aw]
    cases hk : (hOk x1_0 && (hOk x1_1 && hOk x1_2)) with
    | false => simp
    | true =>
      have hh : ∀ c, c < 3 → 0 ≤ hueAt x1_0 x1_1 x1_2 c ∧ hueAt x1_0 x1_1 x1_2 c ≤ 1048576 := fun c hc => by
        simp only [Bool.and_eq_true, hOk_iff] at hk
        obtain ⟨k0, k1, k2⟩ := hk
        have hc' : c = 0 ∨ c = 1 ∨ c = 2 := by omega
        rcases hc' with rfl | rfl | rfl
        · exact k0
        · exact k1
        · exact k2
      have q1 : decide (x0_2.length ≤ 1048576 ∧ x0_3.length ≤ 1048576 ∧ x0_4.length ≤ 1048576 ∧ x0_5.length ≤ 1048576 ∧ x0_6.length ≤ 1048576 ∧ x0_7.length ≤ 1048576) = true := decide_eq_true ⟨by omega, by omega, by omega, by omega, by omega, by omega⟩
      have f1 : llf_L2_p x0_0 x0_1 x0_2 x0_3 x0_4 x0_5 x0_6 x0_7 x1_0 x1_1 x1_2 = true := (llf_fill (by omega)).1
      have t := tf_ok (x1_0 := x1_0) (x1_1 := x1_1) (x1_2 := x1_2) hf
      have b0 : levB (tfm_v x0_0 x0_1 x0_2 x0_3 x0_4 x0_5 x0_6 x0_7).fst (tfm_v x0_0 x0_1 x0_2 x0_3 x0_4 x0_5 x0_6 x0_7).snd.fst (llf_L2_v x0_0 x0_1 x0_2 x0_3 x0_4 x0_5 x0_6 x0_7 x1_0 x1_1 x1_2).snd (tfm_v x0_0 x0_1 x0_2 x0_3 x0_4 x0_5 x0_6 x0_7).snd.snd.snd.snd.snd.fst (tfm_v x0_0 x0_1 x0_2 x0_3 x0_4 x0_5 x0_6 x0_7).snd.snd.snd.snd.snd.snd.fst (tfm_v x0_0 x0_1 x0_2 x0_3 x0_4 x0_5 x0_6 x0_7).snd.snd.snd.snd.snd.snd.snd (tfm_v x0_0 x0_1 x0_2 x0_3 x0_4 x0_5 x0_6 x0_7).snd.snd.snd.fst (tfm_v x0_0 x0_1 x0_2 x0_3 x0_4 x0_5 x0_6 x0_7).snd.snd.snd.snd.fst (tfm_v x0_0 x0_1 x0_2 x0_3 x0_4 x0_5 x0_6 x0_7).fst (tfm_v x0_0 x0_1 x0_2 x0_3 x0_4 x0_5 x0_6 x0_7).snd.fst (llf_L2_v x0_0 x0_1 x0_2 x0_3 x0_4 x0_5 x0_6 x0_7 x1_0 x1_1 x1_2).snd (0 : Int) = true := lv_B t (k := 0) (by omega)
      have b1 : levB (tfm_v x0_0 x0_1 x0_2 x0_3 x0_4 x0_5 x0_6 x0_7).fst (tfm_v x0_0 x0_1 x0_2 x0_3 x0_4 x0_5 x0_6 x0_7).snd.fst (llf_L2_v x0_0 x0_1 x0_2 x0_3 x0_4 x0_5 x0_6 x0_7 x1_0 x1_1 x1_2).snd (tfm_v x0_0 x0_1 x0_2 x0_3 x0_4 x0_5 x0_6 x0_7).snd.snd.snd.snd.snd.fst (tfm_v x0_0 x0_1 x0_2 x0_3 x0_4 x0_5 x0_6 x0_7).snd.snd.snd.snd.snd.snd.fst (tfm_v x0_0 x0_1 x0_2 x0_3 x0_4 x0_5 x0_6 x0_7).snd.snd.snd.snd.snd.snd.snd (tfm_v x0_0 x0_1 x0_2 x0_3 x0_4 x0_5 x0_6 x0_7).snd.snd.snd.fst (tfm_v x0_0 x0_1 x0_2 x0_3 x0_4 x0_5 x0_6 x0_7).snd.snd.snd.snd.fst (tfm_v x0_0 x0_1 x0_2 x0_3 x0_4 x0_5 x0_6 x0_7).fst (tfm_v x0_0 x0_1 x0_2 x0_3 x0_4 x0_5 x0_6 x0_7).snd.fst (levT (tfm_v x0_0 x0_1 x0_2 x0_3 x0_4 x0_5 x0_6 x0_7).fst (tfm_v x0_0 x0_1 x0_2 x0_3 x0_4 x0_5 x0_6 x0_7).snd.fst (0 : Int) (tfm_v x0_0 x0_1 x0_2 x0_3 x0_4 x0_5 x0_6 x0_7).snd.snd.snd.snd.snd.fst (tfm_v x0_0 x0_1 x0_2 x0_3 x0_4 x0_5 x0_6 x0_7).snd.snd.snd.snd.snd.snd.fst (tfm_v x0_0 x0_1 x0_2 x0_3 x0_4 x0_5 x0_6 x0_7).snd.snd.snd.fst (llf_L2_v x0_0 x0_1 x0_2 x0_3 x0_4 x0_5 x0_6 x0_7 x1_0 x1_1 x1_2).snd) (1 : Int) = true := lv_B t (k := 1) (by omega)
      have b2 : levB (tfm_v x0_0 x0_1 x0_2 x0_3 x0_4 x0_5 x0_6 x0_7).fst (tfm_v x0_0 x0_1 x0_2 x0_3 x0_4 x0_5 x0_6 x0_7).snd.fst (llf_L2_v x0_0 x0_1 x0_2 x0_3 x0_4 x0_5 x0_6 x0_7 x1_0 x1_1 x1_2).snd (tfm_v x0_0 x0_1 x0_2 x0_3 x0_4 x0_5 x0_6 x0_7).snd.snd.snd.snd.snd.fst (tfm_v x0_0 x0_1 x0_2 x0_3 x0_4 x0_5 x0_6 x0_7).snd.snd.snd.snd.snd.snd.fst (tfm_v x0_0 x0_1 x0_2 x0_3 x0_4 x0_5 x0_6 x0_7).snd.snd.snd.snd.snd.snd.snd (tfm_v x0_0 x0_1 x0_2 x0_3 x0_4 x0_5 x0_6 x0_7).snd.snd.snd.fst (tfm_v x0_0 x0_1 x0_2 x0_3 x0_4 x0_5 x0_6 x0_7).snd.snd.snd.snd.fst (tfm_v x0_0 x0_1 x0_2 x0_3 x0_4 x0_5 x0_6 x0_7).fst (tfm_v x0_0 x0_1 x0_2 x0_3 x0_4 x0_5 x0_6 x0_7).snd.fst (levT (tfm_v x0_0 x0_1 x0_2 x0_3 x0_4 x0_5 x0_6 x0_7).fst (tfm_v x0_0 x0_1 x0_2 x0_3 x0_4 x0_5 x0_6 x0_7).snd.fst (1 : Int) (tfm_v x0_0 x0_1 x0_2 x0_3 x0_4 x0_5 x0_6 x0_7).snd.snd.snd.snd.snd.fst (tfm_v x0_0 x0_1 x0_2 x0_3 x0_4 x0_5 x0_6 x0_7).snd.snd.snd.snd.snd.snd.fst (tfm_v x0_0 x0_1 x0_2 x0_3 x0_4 x0_5 x0_6 x0_7).snd.snd.snd.fst (levT (tfm_v x0_0 x0_1 x0_2 x0_3 x0_4 x0_5 x0_6 x0_7).fst (tfm_v x0_0 x0_1 x0_2 x0_3 x0_4 x0_5 x0_6 x0_7).snd.fst (0 : Int) (tfm_v x0_0 x0_1 x0_2 x0_3 x0_4 x0_5 x0_6 x0_7).snd.snd.snd.snd.snd.fst (tfm_v x0_0 x0_1 x0_2 x0_3 x0_4 x0_5 x0_6 x0_7).snd.snd.snd.snd.snd.snd.fst (tfm_v x0_0 x0_1 x0_2 x0_3 x0_4 x0_5 x0_6 x0_7).snd.snd.snd.fst (llf_L2_v x0_0 x0_1 x0_2 x0_3 x0_4 x0_5 x0_6 x0_7 x1_0 x1_1 x1_2).snd)) (2 : Int) = true := lv_B t (k := 2) (by omega)
      have b3 : levB (tfm_v x0_0 x0_1 x0_2 x0_3 x0_4 x0_5 x0_6 x0_7).fst (tfm_v x0_0 x0_1 x0_2 x0_3 x0_4 x0_5 x0_6 x0_7).snd.fst (llf_L2_v x0_0 x0_1 x0_2 x0_3 x0_4 x0_5 x0_6 x0_7 x1_0 x1_1 x1_2).snd (tfm_v x0_0 x0_1 x0_2 x0_3 x0_4 x0_5 x0_6 x0_7).snd.snd.snd.snd.snd.fst (tfm_v x0_0 x0_1 x0_2 x0_3 x0_4 x0_5 x0_6 x0_7).snd.snd.snd.snd.snd.snd.fst (tfm_v x0_0 x0_1 x0_2 x0_3 x0_4 x0_5 x0_6 x0_7).snd.snd.snd.snd.snd.snd.snd (tfm_v x0_0 x0_1 x0_2 x0_3 x0_4 x0_5 x0_6 x0_7).snd.snd.snd.fst (tfm_v x0_0 x0_1 x0_2 x0_3 x0_4 x0_5 x0_6 x0_7).snd.snd.snd.snd.fst (tfm_v x0_0 x0_1 x0_2 x0_3 x0_4 x0_5 x0_6 x0_7).fst (tfm_v x0_0 x0_1 x0_2 x0_3 x0_4 x0_5 x0_6 x0_7).snd.fst (levT (tfm_v x0_0 x0_1 x0_2 x0_3 x0_4 x0_5 x0_6 x0_7).fst (tfm_v x0_0 x0_1 x0_2 x0_3 x0_4 x0_5 x0_6 x0_7).snd.fst (2 : Int) (tfm_v x0_0 x0_1 x0_2 x0_3 x0_4 x0_5 x0_6 x0_7).snd.snd.snd.snd.snd.fst (tfm_v x0_0 x0_1 x0_2 x0_3 x0_4 x0_5 x0_6 x0_7).snd.snd.snd.snd.snd.snd.fst (tfm_v x0_0 x0_1 x0_2 x0_3 x0_4 x0_5 x0_6 x0_7).snd.snd.snd.fst (levT (tfm_v x0_0 x0_1 x0_2 x0_3 x0_4 x0_5 x0_6 x0_7).fst (tfm_v x0_0 x0_1 x0_2 x0_3 x0_4 x0_5 x0_6 x0_7).snd.fst (1 : Int) (tfm_v x0_0 x0_1 x0_2 x0_3 x0_4 x0_5 x0_6 x0_7).snd.snd.snd.snd.snd.fst (tfm_v x0_0 x0_1 x0_2 x0_3 x0_4 x0_5 x0_6 x0_7).snd.snd.snd.snd.snd.snd.fst (tfm_v x0_0 x0_1 x0_2 x0_3 x0_4 x0_5 x0_6 x0_7).snd.snd.snd.fst (levT (tfm_v x0_0 x0_1 x0_2 x0_3 x0_4 x0_5 x0_6 x0_7).fst (tfm_v x0_0 x0_1 x0_2 x0_3 x0_4 x0_5 x0_6 x0_7).snd.fst (0 : Int) (tfm_v x0_0 x0_1 x0_2 x0_3 x0_4 x0_5 x0_6 x0_7).snd.snd.snd.snd.snd.fst (tfm_v x0_0 x0_1 x0_2 x0_3 x0_4 x0_5 x0_6 x0_7).snd.snd.snd.snd.snd.snd.fst (tfm_v x0_0 x0_1 x0_2 x0_3 x0_4 x0_5 x0_6 x0_7).snd.snd.snd.fst (llf_L2_v x0_0 x0_1 x0_2 x0_3 x0_4 x0_5 x0_6 x0_7 x1_0 x1_1 x1_2).snd))) (3 : Int) = true := lv_B t (k := 3) (by omega)
      have b4 : levB (tfm_v x0_0 x0_1 x0_2 x0_3 x0_4 x0_5 x0_6 x0_7).fst (tfm_v x0_0 x0_1 x0_2 x0_3 x0_4 x0_5 x0_6 x0_7).snd.fst (llf_L2_v x0_0 x0_1 x0_2 x0_3 x0_4 x0_5 x0_6 x0_7 x1_0 x1_1 x1_2).snd (tfm_v x0_0 x0_1 x0_2 x0_3 x0_4 x0_5 x0_6 x0_7).snd.snd.snd.snd.snd.fst (tfm_v x0_0 x0_1 x0_2 x0_3 x0_4 x0_5 x0_6 x0_7).snd.snd.snd.snd.snd.snd.fst (tfm_v x0_0 x0_1 x0_2 x0_3 x0_4 x0_5 x0_6 x0_7).snd.snd.snd.snd.snd.snd.snd (tfm_v x0_0 x0_1 x0_2 x0_3 x0_4 x0_5 x0_6 x0_7).snd.snd.snd.fst (tfm_v x0_0 x0_1 x0_2 x0_3 x0_4 x0_5 x0_6 x0_7).snd.snd.snd.snd.fst (tfm_v x0_0 x0_1 x0_2 x0_3 x0_4 x0_5 x0_6 x0_7).fst (tfm_v x0_0 x0_1 x0_2 x0_3 x0_4 x0_5 x0_6 x0_7).snd.fst (levT (tfm_v x0_0 x0_1 x0_2 x0_3 x0_4 x0_5 x0_6 x0_7).fst (tfm_v x0_0 x0_1 x0_2 x0_3 x0_4 x0_5 x0_6 x0_7).snd.fst (3 : Int) (tfm_v x0_0 x0_1 x0_2 x0_3 x0_4 x0_5 x0_6 x0_7).snd.snd.snd.snd.snd.fst (tfm_v x0_0 x0_1 x0_2 x0_3 x0_4 x0_5 x0_6 x0_7).snd.snd.snd.snd.snd.snd.fst (tfm_v x0_0 x0_1 x0_2 x0_3 x0_4 x0_5 x0_6 x0_7).snd.snd.snd.fst (levT (tfm_v x0_0 x0_1 x0_2 x0_3 x0_4 x0_5 x0_6 x0_7).fst (tfm_v x0_0 x0_1 x0_2 x0_3 x0_4 x0_5 x0_6 x0_7).snd.fst (2 : Int) (tfm_v x0_0 x0_1 x0_2 x0_3 x0_4 x0_5 x0_6 x0_7).snd.snd.snd.snd.snd.fst (tfm_v x0_0 x0_1 x0_2 x0_3 x0_4 x0_5 x0_6 x0_7).snd.snd.snd.snd.snd.snd.fst (tfm_v x0_0 x0_1 x0_2 x0_3 x0_4 x0_5 x0_6 x0_7).snd.snd.snd.fst (levT (tfm_v x0_0 x0_1 x0_2 x0_3 x0_4 x0_5 x0_6 x0_7).fst (tfm_v x0_0 x0_1 x0_2 x0_3 x0_4 x0_5 x0_6 x0_7).snd.fst (1 : Int) (tfm_v x0_0 x0_1 x0_2 x0_3 x0_4 x0_5 x0_6 x0_7).snd.snd.snd.snd.snd.fst (tfm_v x0_0 x0_1 x0_2 x0_3 x0_4 x0_5 x0_6 x0_7).snd.snd.snd.snd.snd.snd.fst (tfm_v x0_0 x0_1 x0_2 x0_3 x0_4 x0_5 x0_6 x0_7).snd.snd.snd.fst (levT (tfm_v x0_0 x0_1 x0_2 x0_3 x0_4 x0_5 x0_6 x0_7).fst (tfm_v x0_0 x0_1 x0_2 x0_3 x0_4 x0_5 x0_6 x0_7).snd.fst (0 : Int) (tfm_v x0_0 x0_1 x0_2 x0_3 x0_4 x0_5 x0_6 x0_7).snd.snd.snd.snd.snd.fst (tfm_v x0_0 x0_1 x0_2 x0_3 x0_4 x0_5 x0_6 x0_7).snd.snd.snd.snd.snd.snd.fst (tfm_v x0_0 x0_1 x0_2 x0_3 x0_4 x0_5 x0_6 x0_7).snd.snd.snd.fst (llf_L2_v x0_0 x0_1 x0_2 x0_3 x0_4 x0_5 x0_6 x0_7 x1_0 x1_1 x1_2).snd)))) (4 : Int) = true := lv_B t (k := 4) (by omega)
      obtain ⟨c1, c2⟩ := llf_L4_is hf hh
      simp only [q1, f1, b0, b1, b2, b3, b4, c1, c2, cond_true, cond_false, Bool.and_self, Bool.not_true]
      cases (bif !bif decide ((x0_2.length : Int) ≤ (100 : Int)) then bif decide ((x0_6.length : Int) ≤ (100 : Int)) then decide ((x0_2.length : Int) ≤ (100 : Int)) else false else false then true else false) <;> rfl
end
/-- The package variable's numbers. -/
def tapsG : List (List Ct) := numRows [6, 4, 1]
theorem tapsG_ok : gtB tapsG = true := by decide
theorem llf_call (x0_0 x0_1 : Int) (x0_2 x0_3 x0_4 x0_5 x0_6 x0_7 : List (List Ct)) (x1_0 x1_1 x1_2 : Int) : CallOk Tryd.prog 5 [.sv (.agg [.val false (.int .i64 x0_0), .val false (.int .i64 x0_1), .ext 2, .ext 3, .ext 4, .ext 5, .ext 6, .ext 7]), .sv (.agg [.val false (.int .i64 x1_0), .val false (.int .i64 x1_1), .val false (.int .i64 x1_2)])] [(0, .grid [.int .i64] tapsG), (1, .tie true 0 0), (2, .grid [.int .i64, .int .i64, .int .i64] x0_2), (3, .grid [.int .i64] x0_3), (4, .grid [.int .i64, .int .i64, .int .i64] x0_4), (5, .grid [.int .i64, .int .i64, .int .i64] x0_5), (6, .grid [.int .i64] x0_6), (7, .grid [.int .i64] x0_7)] 8 (llf_O true) := llf_tree (llf_true tapsG_ok)
end Go.Proofs.YtijidmcblpgfkaaDoor
