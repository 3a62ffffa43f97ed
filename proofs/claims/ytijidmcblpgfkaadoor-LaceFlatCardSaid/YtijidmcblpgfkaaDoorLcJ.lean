/- Copies of films and sheets are smoothed alike. No condition. -/
import Derived.Test.YtijidmcblpgfkaaDoorLcG
set_option linter.unusedVariables false
set_option linter.unusedSimpArgs false
namespace Go.Proofs.YtijidmcblpgfkaaDoor
open Go.RowKit

structure SameW (w : Nat) (l l' : List (List Ct)) : Prop where
  len : l.length = l'.length
  at' : ∀ i j, j < w → (rd l i j).int = (rd l' i j).int
theorem rd_out {l : List (List Ct)} {i j : Nat} (h : l.length ≤ i) : rd l i j = .i 0 := by
  simp [rd, List.getD_eq_getElem?_getD, h]
theorem copy3 (l : List (List Ct)) : SameW 3 (tab (fun k => [.i (rd l k 0).int, .i (rd l k 1).int, .i (rd l k 2).int]) l.length) l := by
  refine ⟨tab_length _ _, fun i j hj => ?_⟩
  by_cases hi : i < l.length
  · rw [rd_tab hi]
    have hj : j = 0 ∨ j = 1 ∨ j = 2 := by omega
    rcases hj with rfl | rfl | rfl <;> rfl
  · rw [rd_out (l := l) (by omega), rd_out (by rw [tab_length]; omega)]
theorem copy1 (l : List (List Ct)) : SameW 1 (tab (fun k => [.i (rd l k 0).int]) l.length) l := by
  refine ⟨tab_length _ _, fun i j hj => ?_⟩
  obtain rfl : j = 0 := by omega
  by_cases hi : i < l.length
  · rw [rd_tab hi]; rfl
  · rw [rd_out (l := l) (by omega), rd_out (by rw [tab_length]; omega)]
section
variable {D D' N N' L L' S : List (List Ct)} (hD : SameW 1 D D') (hN : SameW 3 N N') (hL : SameW 3 L L')
include hD hN in
theorem likS_c (i k : Int) : likS D N S i k = likS D' N' S i k := by
  unfold likS
  rw [hD.at' _ 0 (by omega), hD.at' _ 0 (by omega), hN.at' _ 0 (by omega), hN.at' _ 0 (by omega), hN.at' _ 1 (by omega), hN.at' _ 1 (by omega), hN.at' _ 2 (by omega), hN.at' _ 2 (by omega)]
include hD hN hL
theorem weiS_c (i k a b n : Int) : weiS D N S L i k a b n = weiS D' N' S L' i k a b n := by
  unfold weiS
  rw [likS_c hD hN, hL.at' _ 0 (by omega), hL.at' _ 1 (by omega), hL.at' _ 2 (by omega), hL.at' _ 0 (by omega), hL.at' _ 1 (by omega), hL.at' _ 2 (by omega)]
theorem accF_c (W H n x y b a : Int) (t : Int × Int × Int × Int) : accF W H n D N S L x y b a t = accF W H n D' N' S L' x y b a t := by
  unfold accF
  rw [weiS_c hD hN hL, hL.at' _ 0 (by omega), hL.at' _ 1 (by omega), hL.at' _ 2 (by omega)]
theorem pixS_c (W H n x y : Int) : pixS W H n D N S L x y = pixS W H n D' N' S L' x y := by
  have h1 : rowF W H n D N S L x y = rowF W H n D' N' S L' x y := by
    funext r t
    unfold rowF
    exact nfold_congr (fun k _ a => accF_c hD hN hL _ _ _ _ _ _ _ _) _
  unfold pixS sumF
  rw [h1]
theorem levT_c (W H n : Int) : levT W H n D N S L = levT W H n D' N' S L' := by
  unfold levT pixR tab
  rw [hL.len]
  refine List.map_congr_left fun k _ => ?_
  rw [pixS_c hD hN hL]
end
theorem filmS_c {w h : Int} {L L' D D' N N' B B' S F : List (List Ct)} (hL : SameW 3 L L') (hD : SameW 1 D D') (hN : SameW 3 N N') (hB : SameW 3 B B') : filmS w h L D N B S F = filmS w h L' D' N' B' S F := by
  have : FilmOk w h L D N B S F ↔ FilmOk w h L' D' N' B' S F :=
    ⟨fun k => ⟨k.w1, k.w2, k.h1, k.h2, hL.len ▸ k.l, hD.len ▸ k.d, hN.len ▸ k.n, hB.len ▸ k.b, k.s, k.f, k.at'⟩, fun k => ⟨k.w1, k.w2, k.h1, k.h2, hL.len ▸ k.l, hD.len ▸ k.d, hN.len ▸ k.n, hB.len ▸ k.b, k.s, k.f, k.at'⟩⟩
  by_cases hk : FilmOk w h L D N B S F
  · rw [filmS_true hk, filmS_true (this.1 hk)]
  · rw [filmS_false hk, filmS_false fun k => hk (this.2 k)]
section
variable {w h w' h' n : Int} {L L' M M' D D' N N' B B' S F : List (List Ct)} (hL : SameW 3 L L') (hD : SameW 1 D D') (hN : SameW 3 N N') (hB : SameW 3 B B')
include hL hD hN hB
theorem levS_c (hM : SameW 3 M M') : levS w h L D N B S F w' h' M n = levS w h L' D' N' B' S F w' h' M' n := by
  unfold levS levB sheetR
  rw [filmS_c hL hD hN hB, hM.len, levT_c hD hN hM]
theorem smoR_c (hM : SameW 3 M M') : smoR w h L D N B S F w' h' M = smoR w h L' D' N' B' S F w' h' M' := by
  have e : ∀ k a, smoF w h L D N B S F k a = smoF w h L' D' N' B' S F k a := fun k a => by
    unfold smoF
    rw [levS_c hL hD hN hB ⟨rfl, fun _ _ _ => rfl⟩]
  have e' : smoF w h L D N B S F = smoF w h L' D' N' B' S F := by funext k a; exact e k a
  have e0 : smoF w h L' D' N' B' S F 0 (w', h', M) = smoF w h L' D' N' B' S F 0 (w', h', M') := by
    unfold smoF
    rw [levS_c (L' := L') (D' := D') (N' := N') (B' := B') ⟨rfl, fun _ _ _ => rfl⟩ ⟨rfl, fun _ _ _ => rfl⟩ ⟨rfl, fun _ _ _ => rfl⟩ ⟨rfl, fun _ _ _ => rfl⟩ hM]
  unfold smoR
  rw [e']
  show rounds _ _ (4 + 1) 0 _ = rounds _ _ (4 + 1) 0 _
  unfold rounds
  rw [e0]
theorem smoS_c (hM : SameW 3 M M') : smoS w h L D N B S F w' h' M = smoS w h L' D' N' B' S F w' h' M' := by
  unfold smoS
  rw [smoR_c hL hD hN hB hM]
end
theorem levS_len {w h w' h' n : Int} {L M D N B S F : List (List Ct)} : (levS w h L D N B S F w' h' M n).2.2.2.length ≤ M.length := by
  unfold levS
  cases levB w h L D N B S F w' h' M n with
  | false => exact Nat.zero_le _
  | true => show (levT _ _ _ _ _ _ _).length ≤ _; unfold levT; rw [tab_length]; exact Nat.le_refl _
theorem smoR_len {w h : Int} {L D N B S F : List (List Ct)} : ∀ (m k : Nat) (a : Int × Int × List (List Ct)) (v : Int × Int × Int × List (List Ct)), rounds (smoF w h L D N B S F) (fun a => .inl (5, a.1, a.2.1, a.2.2)) m k a = .inl v → v.2.2.2.length ≤ a.2.2.length := by
  intro m
  induction m with
  | zero => intro k a v hv; simp only [rounds, Sum.inl.injEq] at hv; subst hv; exact Nat.le_refl _
  | succ m ih =>
    intro k a v hv
    simp only [rounds] at hv
    split at hv
    · rename_i a' ha'
      have h1 := ih _ _ _ hv
      unfold smoF at ha'
      split at ha'
      · cases ha'
        exact Nat.le_trans h1 levS_len
      · cases ha'
    · rename_i r hr
      subst hv
      unfold smoF at hr
      split at hr
      · cases hr
      · cases hr
theorem smoS_len {w h w' h' : Int} {L M D N B S F : List (List Ct)} : (smoS w h L D N B S F w' h' M).2.2.2.length ≤ M.length := by
  unfold smoS
  split
  · rename_i v hv; exact smoR_len 5 0 (w', h', M) v hv
  · exact Nat.zero_le _
/-- What is laid back is the same. -/
theorem sheet_back (w h : Int) (l : List (List Ct)) : sheetS w h (tab (fun k => [.i (rd l k 0).int, .i (rd l k 1).int, .i (rd l k 2).int]) l.length) w h l = true := by
  have c := copy3 l
  exact sheetS_true ⟨rfl, rfl, c.len, fun k _ => ⟨c.at' k 0 (by omega), c.at' k 1 (by omega), c.at' k 2 (by omega)⟩⟩
end Go.Proofs.YtijidmcblpgfkaaDoor
