/- GlanceFilms is true. No condition but how long the lists are. -/
import Derived.Test.YtjjijaeoafeocaaGlFlm
import Derived.Test.YtjjijaeoafeocaaGlanceFilmsT
set_option linter.unusedVariables false
set_option linter.unusedSimpArgs false
namespace Go.Proofs.Ytjjijaeoafeocaa
open Go.RowKit

theorem film_len {w h : Int} {L D N B L' D' N' B' S F : List (List Ct)} (hl : L'.length = L.length) (hd : D'.length = D.length) (hn : N'.length = N.length) (hb : B'.length = B.length) : filmS w h L' D' N' B' S F = filmS w h L D N B S F := by
  have e : FilmOk w h L' D' N' B' S F ↔ FilmOk w h L D N B S F :=
    ⟨fun k => ⟨k.w1, k.w2, k.h1, k.h2, hl ▸ k.l, hd ▸ k.d, hn ▸ k.n, hb ▸ k.b, k.s, k.f, k.at'⟩, fun k => ⟨k.w1, k.w2, k.h1, k.h2, hl ▸ k.l, hd ▸ k.d, hn ▸ k.n, hb ▸ k.b, k.s, k.f, k.at'⟩⟩
  cases hc : filmS w h L D N B S F with
  | true => exact filmS_true (e.2 (filmS_iff.1 hc))
  | false => exact filmS_false fun k => by rw [filmS_true (e.1 k)] at hc; cases hc

theorem linesG_len (g : Nat → Nat → Int) (W n : Nat) : (linesG g W n).length = n := tab_length _ _
section
variable {w h : Int} {L D N B S F : List (List Ct)}
theorem fr_same : fright_v (tfm_v w h L D N B S F).fst (tfm_v w h L D N B S F).snd.fst (tfm_v w h L D N B S F).snd.snd.fst (tfm_v w h L D N B S F).snd.snd.snd.snd.snd.fst (tfm_v w h L D N B S F).snd.snd.snd.snd.snd.snd.fst (tfm_v w h L D N B S F).snd.snd.snd.snd.snd.snd.snd (tfm_v w h L D N B S F).snd.snd.snd.fst (tfm_v w h L D N B S F).snd.snd.snd.snd.fst = filmS w h L D N B S F :=
  film_len (tab_length _ _) (tab_length _ _) (tab_length _ _) (tab_length _ _)
theorem lgq_true (l2 : L.length ≤ 1048576) (l3 : D.length ≤ 1048576) (l4 : N.length ≤ 1048576) (l5 : B.length ≤ 1048576) (l6 : S.length ≤ 1048576) (l7 : F.length ≤ 1048576) : lgq_res w h L D N B S F = some true := by
  have ob : decide (L.length ≤ 1048576 ∧ D.length ≤ 1048576 ∧ N.length ≤ 1048576 ∧ B.length ≤ 1048576 ∧ S.length ≤ 1048576 ∧ F.length ≤ 1048576) = true := decide_eq_true ⟨l2, l3, l4, l5, l6, l7⟩
  unfold lgq_res
  cases hc : (bif decide ((↑L.length : Int) > (5000 : Int)) then true else bif decide ((↑S.length : Int) > (5000 : Int)) then true else decide ((↑F.length : Int) > (5000 : Int))) with
  | true => rfl
  | false =>
    refine (cond_false _ _).trans ?_
    rw [ob]
    refine (cond_true _ _).trans ?_
    cases fs : filmS w h L D N B S F with
    | false =>
      have fr : fright_v (tfm_v w h L D N B S F).fst (tfm_v w h L D N B S F).snd.fst (tfm_v w h L D N B S F).snd.snd.fst (tfm_v w h L D N B S F).snd.snd.snd.snd.snd.fst (tfm_v w h L D N B S F).snd.snd.snd.snd.snd.snd.fst (tfm_v w h L D N B S F).snd.snd.snd.snd.snd.snd.snd (tfm_v w h L D N B S F).snd.snd.snd.fst (tfm_v w h L D N B S F).snd.snd.snd.snd.fst = false := fr_same.trans fs
      have rf : rfright_v w h L D N B S F = false := fs
      have a : gsh_res (tfm_v w h L D N B S F).fst (tfm_v w h L D N B S F).snd.fst (tfm_v w h L D N B S F).snd.snd.fst (tfm_v w h L D N B S F).snd.snd.snd.snd.snd.fst (tfm_v w h L D N B S F).snd.snd.snd.snd.snd.snd.fst (tfm_v w h L D N B S F).snd.snd.snd.snd.snd.snd.snd (tfm_v w h L D N B S F).snd.snd.snd.fst (tfm_v w h L D N B S F).snd.snd.snd.snd.fst = some (1, []) := by unfold gsh_res; rw [fr]; rfl
      have b : gfl_res (tfm_v w h L D N B S F).fst (tfm_v w h L D N B S F).snd.fst (tfm_v w h L D N B S F).snd.snd.fst (tfm_v w h L D N B S F).snd.snd.snd.snd.snd.fst (tfm_v w h L D N B S F).snd.snd.snd.snd.snd.snd.fst (tfm_v w h L D N B S F).snd.snd.snd.snd.snd.snd.snd (tfm_v w h L D N B S F).snd.snd.snd.fst (tfm_v w h L D N B S F).snd.snd.snd.snd.fst = some (1, []) := by unfold gfl_res; rw [fr]; rfl
      have av : lgq_c17949125 w h L D N B S F = (1, []) := by unfold lgq_c17949125 gsh_v; rw [a]; rfl
      have bv : lgq_c76350983 w h L D N B S F = (1, []) := by unfold lgq_c76350983 gfl_v; rw [b]; rfl
      rw [a, b, rf, av, bv]
      rfl
    | true =>
      have k := filmS_iff.1 fs
      obtain ⟨W, rfl⟩ : ∃ W : Nat, w = W := ⟨w.toNat, by have := k.w1; omega⟩
      obtain ⟨H, rfl⟩ : ∃ H : Nat, h = H := ⟨h.toNat, by have := k.h1; omega⟩
      have w0 : 1 ≤ W := by have := k.w1; omega
      have w1 : W ≤ 64 := by have := k.w2; omega
      have h1 : H ≤ 64 := by have := k.h2; omega
      have m : (W : Int) * (H : Int) = ((W * H : Nat) : Int) := (Int.natCast_mul W H).symm
      have sl : S.length = W * H := by have := k.s; rw [m] at this; omega
      have fll : F.length = W * H := by have := k.f; rw [m] at this; omega
      have hF : ∀ i, i < F.length → (rd F i 0).int < (W : Int) * (H : Int) := fun i hi => (k.at' i (by omega)).2.2.2
      have fr : fright_v (tfm_v (W : Int) (H : Int) L D N B S F).fst (tfm_v (W : Int) (H : Int) L D N B S F).snd.fst (tfm_v (W : Int) (H : Int) L D N B S F).snd.snd.fst (tfm_v (W : Int) (H : Int) L D N B S F).snd.snd.snd.snd.snd.fst (tfm_v (W : Int) (H : Int) L D N B S F).snd.snd.snd.snd.snd.snd.fst (tfm_v (W : Int) (H : Int) L D N B S F).snd.snd.snd.snd.snd.snd.snd (tfm_v (W : Int) (H : Int) L D N B S F).snd.snd.snd.fst (tfm_v (W : Int) (H : Int) L D N B S F).snd.snd.snd.snd.fst = true := fr_same.trans fs
      have rf : rfright_v (W : Int) (H : Int) L D N B S F = true := fs
      have i1 := gsh_all w0 w1 h1 sl
      have p1 : gsh_L0_p (W : Int) (H : Int) S = true := by unfold gsh_L0_p; rw [i1]; rfl
      have v1 : gsh_L0_v (W : Int) (H : Int) S = ((H : Int), linesG (sL S W) W H) := by unfold gsh_L0_v loopRes; rw [i1]; rfl
      have i2 := gfl_all hF w0 w1 h1 fll
      have p2 : gfl_L0_p (W : Int) (H : Int) F = true := by unfold gfl_L0_p; rw [i2]; rfl
      have v2 : gfl_L0_v (W : Int) (H : Int) F = ((H : Int), linesG (fL' F W) W H) := by unfold gfl_L0_v loopRes; rw [i2]; rfl
      have a : gsh_res (tfm_v (W : Int) (H : Int) L D N B S F).fst (tfm_v (W : Int) (H : Int) L D N B S F).snd.fst (tfm_v (W : Int) (H : Int) L D N B S F).snd.snd.fst (tfm_v (W : Int) (H : Int) L D N B S F).snd.snd.snd.snd.snd.fst (tfm_v (W : Int) (H : Int) L D N B S F).snd.snd.snd.snd.snd.snd.fst (tfm_v (W : Int) (H : Int) L D N B S F).snd.snd.snd.snd.snd.snd.snd (tfm_v (W : Int) (H : Int) L D N B S F).snd.snd.snd.fst (tfm_v (W : Int) (H : Int) L D N B S F).snd.snd.snd.snd.fst = some (0, linesG (sL S W) W H) := by
        unfold gsh_res
        rw [fr]
        change (bif gsh_L0_p (W : Int) (H : Int) S then some (0, (gsh_L0_v (W : Int) (H : Int) S).snd) else none) = _
        rw [p1, v1]; rfl
      have b : gfl_res (tfm_v (W : Int) (H : Int) L D N B S F).fst (tfm_v (W : Int) (H : Int) L D N B S F).snd.fst (tfm_v (W : Int) (H : Int) L D N B S F).snd.snd.fst (tfm_v (W : Int) (H : Int) L D N B S F).snd.snd.snd.snd.snd.fst (tfm_v (W : Int) (H : Int) L D N B S F).snd.snd.snd.snd.snd.snd.fst (tfm_v (W : Int) (H : Int) L D N B S F).snd.snd.snd.snd.snd.snd.snd (tfm_v (W : Int) (H : Int) L D N B S F).snd.snd.snd.fst (tfm_v (W : Int) (H : Int) L D N B S F).snd.snd.snd.snd.fst = some (0, linesG (fL' F W) W H) := by
        unfold gfl_res
        rw [fr]
        change (bif gfl_L0_p (W : Int) (H : Int) F then some (0, (gfl_L0_v (W : Int) (H : Int) F).snd) else none) = _
        rw [p2, v2]; rfl
      have av : lgq_c17949125 (W : Int) (H : Int) L D N B S F = (0, linesG (sL S W) W H) := by unfold lgq_c17949125 gsh_v; rw [a]; rfl
      have bv : lgq_c76350983 (W : Int) (H : Int) L D N B S F = (0, linesG (fL' F W) W H) := by unfold lgq_c76350983 gfl_v; rw [b]; rfl
      have r1 := rsh_is w0 w1 h1 sl
      have r2 := rfl_is w0 w1 h1 fll
      have rv1 : rsh_v (W : Int) (H : Int) S = linesG (sL S W) W H := by unfold rsh_v; rw [r1]; rfl
      have rv2 : rfl_v (W : Int) (H : Int) F = linesG (fL' F W) W H := by unfold rfl_v; rw [r2]; rfl
      have c1 : lgq_c33058570 (W : Int) (H : Int) L D N B S F = true := by unfold lgq_c33058570; rw [av, rv1]; exact sam_vrefl _ (by rw [linesG_len]; omega)
      have c2 : lgq_c21333638 (W : Int) (H : Int) L D N B S F = true := by unfold lgq_c21333638; rw [bv, rv2]; exact sam_vrefl _ (by rw [linesG_len]; omega)
      have s1 : sam_res (linesG (sL S W) W H) (linesG (sL S W) W H) = some true := sam_refl _ (by rw [linesG_len]; omega)
      have s2 : sam_res (linesG (fL' F W) W H) (linesG (fL' F W) W H) = some true := sam_refl _ (by rw [linesG_len]; omega)
      rw [a, b, rf, av, bv, c1, c2, r1, r2, rv1, rv2, s1, s2]
      rfl
end
theorem lgq_call (w h : Int) (L D N B S F : List (List Ct)) (l2 : L.length ≤ 1048576) (l3 : D.length ≤ 1048576) (l4 : N.length ≤ 1048576) (l5 : B.length ≤ 1048576) (l6 : S.length ≤ 1048576) (l7 : F.length ≤ 1048576) : CallOk Try.prog 6 [.sv (.agg [.val false (.int .i64 w), .val false (.int .i64 h), .ext 0, .ext 1, .ext 2, .ext 3, .ext 4, .ext 5])] [(0, .grid [.int .i64, .int .i64, .int .i64] L), (1, .grid [.int .i64] D), (2, .grid [.int .i64, .int .i64, .int .i64] N), (3, .grid [.int .i64, .int .i64, .int .i64] B), (4, .grid [.int .i64] S), (5, .grid [.int .i64] F)] 6 (lgq_O true) := lgq_tree (lgq_true l2 l3 l4 l5 l6 l7)
end Go.Proofs.Ytjjijaeoafeocaa
