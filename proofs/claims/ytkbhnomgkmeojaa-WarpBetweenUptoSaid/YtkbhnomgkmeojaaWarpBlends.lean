/- The law WarpBlends: it answers true for all values, where no list is longer than 1048576. No other condition. -/
import Derived.Test.YtkbhnomgkmeojaaWarpBlendsT
set_option linter.unusedVariables false
set_option linter.unusedSimpArgs false
namespace Go.Proofs.Ytkbhnomgkmeojaa
open Go.RowKit

def cpy (X : List (List Ct)) (k : Nat) : List Ct := [.i (rd X k 0).int, .i (rd X k 1).int, .i (rd X k 2).int]
theorem film_len {w h : Int} {L D N B L' D' N' B' S F : List (List Ct)} (hl : L'.length = L.length) (hd : D'.length = D.length) (hn : N'.length = N.length) (hb : B'.length = B.length) : filmS w h L' D' N' B' S F = filmS w h L D N B S F := by
  have e : FilmOk w h L' D' N' B' S F ↔ FilmOk w h L D N B S F :=
    ⟨fun k => ⟨k.w1, k.w2, k.h1, k.h2, hl ▸ k.l, hd ▸ k.d, hn ▸ k.n, hb ▸ k.b, k.s, k.f, k.at'⟩, fun k => ⟨k.w1, k.w2, k.h1, k.h2, hl ▸ k.l, hd ▸ k.d, hn ▸ k.n, hb ▸ k.b, k.s, k.f, k.at'⟩⟩
  cases hc : filmS w h L D N B S F with
  | true => exact filmS_true (e.2 (filmS_iff.1 hc))
  | false => exact filmS_false fun k => by rw [filmS_true (e.1 k)] at hc; cases hc
theorem size_len {w h w' h' : Int} {Z Z' : List (List Ct)} (hl : Z'.length = Z.length) : sizeS w h Z' w' h' = sizeS w h Z w' h' := by
  have e : SheetOk w h Z' w' h' ↔ SheetOk w h Z w' h' := ⟨fun k => ⟨k.w1, k.w2, k.h1, k.h2, hl ▸ k.l, k.ew, k.eh⟩, fun k => ⟨k.w1, k.w2, k.h1, k.h2, hl ▸ k.l, k.ew, k.eh⟩⟩
  cases hc : sizeS w h Z w' h' with
  | true => exact sizeS_true (e.2 (sizeS_iff.1 hc))
  | false => exact sizeS_false fun k => by rw [sizeS_true (e.1 k)] at hc; cases hc
theorem rd_cpy {X : List (List Ct)} {k : Nat} (h : k < X.length) : (rd (tab (cpy X) X.length) k 0).int = (rd X k 0).int ∧ (rd (tab (cpy X) X.length) k 1).int = (rd X k 1).int ∧ (rd (tab (cpy X) X.length) k 2).int = (rd X k 2).int := by
  simp [rd_tab h, cpy, Ct.int]
theorem keepB_cpy {S N F S' N' : List (List Ct)} {m : Int} {k : Nat} (hk : k < N.length) (hm : (N'.length : Int) = m) : keepB S (tab (cpy N) N.length) F S' (tab (cpy N') N'.length) m k = keepB S N F S' N' m k := by
  have e : Keeps S (tab (cpy N) N.length) F S' (tab (cpy N') N'.length) m k ↔ Keeps S N F S' N' m k := by
    have hd : 0 ≤ (rd F k 0).int → (rd F k 0).int < m → dotR (tab (cpy N') N'.length) (rd F k 0).int.toNat (tab (cpy N) N.length) k = dotR N' (rd F k 0).int.toNat N k := by
      intro h0 h1
      obtain ⟨a1, a2, a3⟩ := rd_cpy hk
      obtain ⟨b1, b2, b3⟩ := rd_cpy (X := N') (k := (rd F k 0).int.toNat) (by omega)
      simp only [dotR, a1, a2, a3, b1, b2, b3]
    exact ⟨fun h => ⟨h.f0, h.f1, h.s, by rw [← hd h.f0 h.f1]; exact h.n⟩, fun h => ⟨h.f0, h.f1, h.s, by rw [hd h.f0 h.f1]; exact h.n⟩⟩
  cases hc : keepB S N F S' N' m k with
  | true => exact keepB_iff.2 (e.2 (keepB_iff.1 hc))
  | false => exact keepB_no fun h => by rw [keepB_iff.2 (e.1 h)] at hc; cases hc
theorem kept_cpy {L S N F S' N' : List (List Ct)} {m : Int} (hn : N.length = L.length) (hm : (N'.length : Int) = m) : keptS (tab (cpy L) L.length) S (tab (cpy N) N.length) F S' (tab (cpy N') N'.length) m = keptS L S N F S' N' m := by
  unfold keptS
  rw [tab_length]
  exact nfold_congr (fun k hk a => by simp only [keptF]; rw [keepB_cpy (by omega) hm]) _
theorem tab_congr {f g : Nat → List Ct} {n : Nat} (h : ∀ k, k < n → f k = g k) : tab f n = tab g n := by
  unfold tab
  exact List.map_congr_left fun k hk => h k (List.mem_range.1 hk)
theorem rows_cpy {L S N F S' N' Z : List (List Ct)} {m : Int} (hn : N.length = L.length) (hm : (N'.length : Int) = m) (hz : (Z.length : Int) = m) :
    tab (rowB (tab (cpy L) L.length) S (tab (cpy N) N.length) F S' (tab (cpy N') N'.length) m (tab (cpy Z) Z.length)) L.length = tab (rowB L S N F S' N' m Z) L.length := by
  refine tab_congr fun k hk => ?_
  unfold rowB
  rw [keepB_cpy (by omega) hm]
  obtain ⟨a1, a2, a3⟩ := rd_cpy hk
  cases hb : keepB S N F S' N' m k with
  | true =>
    have h := keepB_iff.1 hb
    have h0 := h.f0
    have h1 := h.f1
    obtain ⟨b1, b2, b3⟩ := rd_cpy (X := Z) (k := (rd F k 0).int.toNat) (by omega)
    simp only [a1, a2, a3, b1, b2, b3]
  | false => simp only [a1, a2, a3, cond_false]
theorem sheet_cpy {w h : Int} {T : List (List Ct)} : sheetS w h (tab (cpy T) T.length) w h T = true :=
  sheetS_true ⟨rfl, rfl, by rw [tab_length], fun k hk => by rw [tab_length] at hk; exact rd_cpy hk⟩
theorem tfm_cpy (x0_0 x0_1 : Int) (x0_2 x0_3 x0_4 x0_5 x0_6 x0_7 : List (List Ct)) : tfm_v x0_0 x0_1 x0_2 x0_3 x0_4 x0_5 x0_6 x0_7 = (x0_0, x0_1, tab (cpy x0_2) x0_2.length, x0_6, x0_7, tab (fun k => [.i (rd x0_3 k 0).int]) x0_3.length, tab (cpy x0_4) x0_4.length, tab (cpy x0_5) x0_5.length) := rfl
theorem tsh_cpy (a b : Int) (l : List (List Ct)) : tsh_v a b l = (a, b, tab (cpy l) l.length) := rfl
theorem fsh_cpy (a b : Int) (l : List (List Ct)) : fsh_v a b l = (a, b, tab (cpy l) l.length) := rfl
theorem lwb_true (x0_0 x0_1 : Int) (x0_2 x0_3 x0_4 x0_5 x0_6 x0_7 : List (List Ct)) (x1_0 x1_1 : Int) (x1_2 x1_3 x1_4 x1_5 x1_6 x1_7 : List (List Ct)) (x2_0 x2_1 : Int) (x2_2 : List (List Ct)) (b0_2 : x0_2.length ≤ 1048576) (b0_3 : x0_3.length ≤ 1048576) (b0_4 : x0_4.length ≤ 1048576) (b0_5 : x0_5.length ≤ 1048576) (b0_6 : x0_6.length ≤ 1048576) (b0_7 : x0_7.length ≤ 1048576) (b1_2 : x1_2.length ≤ 1048576) (b1_3 : x1_3.length ≤ 1048576) (b1_4 : x1_4.length ≤ 1048576) (b1_5 : x1_5.length ≤ 1048576) (b1_6 : x1_6.length ≤ 1048576) (b1_7 : x1_7.length ≤ 1048576) (b2_2 : x2_2.length ≤ 1048576) : lwb_res x0_0 x0_1 x0_2 x0_3 x0_4 x0_5 x0_6 x0_7 x1_0 x1_1 x1_2 x1_3 x1_4 x1_5 x1_6 x1_7 x2_0 x2_1 x2_2 = some true := by
  have e0 : filmS x0_0 x0_1 (tab (cpy x0_2) x0_2.length) (tab (fun k => [.i (rd x0_3 k 0).int]) x0_3.length) (tab (cpy x0_4) x0_4.length) (tab (cpy x0_5) x0_5.length) x0_6 x0_7 = filmS x0_0 x0_1 x0_2 x0_3 x0_4 x0_5 x0_6 x0_7 := film_len (by rw [tab_length]) (by rw [tab_length]) (by rw [tab_length]) (by rw [tab_length])
  have e1 : filmS x1_0 x1_1 (tab (cpy x1_2) x1_2.length) (tab (fun k => [.i (rd x1_3 k 0).int]) x1_3.length) (tab (cpy x1_4) x1_4.length) (tab (cpy x1_5) x1_5.length) x1_6 x1_7 = filmS x1_0 x1_1 x1_2 x1_3 x1_4 x1_5 x1_6 x1_7 := film_len (by rw [tab_length]) (by rw [tab_length]) (by rw [tab_length]) (by rw [tab_length])
  have ez : sizeS x2_0 x2_1 (tab (cpy x2_2) x2_2.length) x1_0 x1_1 = sizeS x2_0 x2_1 x2_2 x1_0 x1_1 := size_len (by rw [tab_length])
  have k2 : x0_2.length ≤ 9223372036854775000 := by omega
  by_cases g0 : (5000 : Int) < x0_2.length
  · simp only [lwb_res, waw_v, gt_iff_lt, g0, decide_true, decide_false, cond_true, cond_false]
  by_cases g1 : (5000 : Int) < x0_6.length
  · simp only [lwb_res, waw_v, gt_iff_lt, g0, g1, decide_true, decide_false, cond_true, cond_false]
  by_cases g2 : (5000 : Int) < x0_7.length
  · simp only [lwb_res, waw_v, gt_iff_lt, g0, g1, g2, decide_true, decide_false, cond_true, cond_false]
  by_cases g3 : (5000 : Int) < x1_2.length
  · simp only [lwb_res, waw_v, gt_iff_lt, g0, g1, g2, g3, decide_true, decide_false, cond_true, cond_false]
  by_cases g4 : (5000 : Int) < x1_6.length
  · simp only [lwb_res, waw_v, gt_iff_lt, g0, g1, g2, g3, g4, decide_true, decide_false, cond_true, cond_false]
  by_cases g5 : (5000 : Int) < x1_7.length
  · simp only [lwb_res, waw_v, gt_iff_lt, g0, g1, g2, g3, g4, g5, decide_true, decide_false, cond_true, cond_false]
  by_cases g6 : (5000 : Int) < x2_2.length
  · simp only [lwb_res, waw_v, gt_iff_lt, g0, g1, g2, g3, g4, g5, g6, decide_true, decide_false, cond_true, cond_false]
  have SE : sheetS 0 0 (tab (cpy []) 0) 0 0 [] = true := sheetS_true ⟨rfl, rfl, rfl, fun k hk => absurd hk (by rw [tab_length]; omega)⟩
  have SA : sheetS x0_0 x0_1 (tab (cpy (tab (cpy x0_2) x0_2.length)) x0_2.length) x0_0 x0_1 x0_2 = true := sheetS_true ⟨rfl, rfl, by rw [tab_length], fun k hk => by
    rw [tab_length] at hk
    obtain ⟨a1, a2, a3⟩ := rd_cpy (X := x0_2) hk
    obtain ⟨c1, c2, c3⟩ := rd_cpy (X := tab (cpy x0_2) x0_2.length) (k := k) (by rw [tab_length]; exact hk)
    rw [tab_length] at c1 c2 c3
    rw [c1, c2, c3, a1, a2, a3]; exact ⟨rfl, rfl, rfl⟩⟩
  cases f0 : filmS x0_0 x0_1 x0_2 x0_3 x0_4 x0_5 x0_6 x0_7 with
  | false => simp [lwb_res, gt_iff_lt, g0, g1, g2, g3, g4, g5, g6, b0_2, b0_3, b0_4, b0_5, b0_6, b0_7, b1_2, b1_3, b1_4, b1_5, b1_6, b1_7, b2_2, tfm_cpy, tsh_cpy, fsh_cpy, ssame_v, rfright_v, alone_v, blend_v, rblend_v, kept_v, rkept_v, waw_v, tab_length, e0, e1, ez, k2, f0, SE]
  | true =>
    cases f1 : filmS x1_0 x1_1 x1_2 x1_3 x1_4 x1_5 x1_6 x1_7 with
    | false => simp [lwb_res, gt_iff_lt, g0, g1, g2, g3, g4, g5, g6, b0_2, b0_3, b0_4, b0_5, b0_6, b0_7, b1_2, b1_3, b1_4, b1_5, b1_6, b1_7, b2_2, tfm_cpy, tsh_cpy, fsh_cpy, ssame_v, rfright_v, alone_v, blend_v, rblend_v, kept_v, rkept_v, waw_v, tab_length, e0, e1, ez, k2, f0, f1, SE, SA]
    | true =>
      have o0 := filmS_iff.1 f0
      have o1 := filmS_iff.1 f1
      have hn : x0_4.length = x0_2.length := by have := o0.n; have := o0.l; omega
      have K := kept_cpy (L := x0_2) (S := x0_6) (N := x0_4) (F := x0_7) (S' := x1_6) (N' := x1_4) (m := x1_0 * x1_1) hn o1.n
      cases fz : sizeS x2_0 x2_1 x2_2 x1_0 x1_1 with
      | false => simp [lwb_res, gt_iff_lt, g0, g1, g2, g3, g4, g5, g6, b0_2, b0_3, b0_4, b0_5, b0_6, b0_7, b1_2, b1_3, b1_4, b1_5, b1_6, b1_7, b2_2, tfm_cpy, tsh_cpy, fsh_cpy, ssame_v, rfright_v, alone_v, blend_v, rblend_v, kept_v, rkept_v, waw_v, tab_length, e0, e1, ez, k2, f0, f1, fz, SE, SA, K]
      | true =>
        have oz := sizeS_iff.1 fz
        have R := rows_cpy (L := x0_2) (S := x0_6) (N := x0_4) (F := x0_7) (S' := x1_6) (N' := x1_4) (Z := x2_2) (m := x1_0 * x1_1) hn o1.n (by rw [oz.l, oz.ew, oz.eh])
        have ST : sheetS x0_0 x0_1 (tab (cpy (tab (rowB x0_2 x0_6 x0_4 x0_7 x1_6 x1_4 (x1_0 * x1_1) x2_2) x0_2.length)) x0_2.length) x0_0 x0_1 (tab (rowB x0_2 x0_6 x0_4 x0_7 x1_6 x1_4 (x1_0 * x1_1) x2_2) x0_2.length) = true := by
          have := sheet_cpy (w := x0_0) (h := x0_1) (T := (tab (rowB x0_2 x0_6 x0_4 x0_7 x1_6 x1_4 (x1_0 * x1_1) x2_2) x0_2.length))
          rwa [tab_length] at this
        simp [lwb_res, gt_iff_lt, g0, g1, g2, g3, g4, g5, g6, b0_2, b0_3, b0_4, b0_5, b0_6, b0_7, b1_2, b1_3, b1_4, b1_5, b1_6, b1_7, b2_2, tfm_cpy, tsh_cpy, fsh_cpy, ssame_v, rfright_v, alone_v, blend_v, rblend_v, kept_v, rkept_v, waw_v, tab_length, e0, e1, ez, k2, f0, f1, fz, SA, K, R, ST]
theorem lwb_call (x0_0 x0_1 : Int) (x0_2 x0_3 x0_4 x0_5 x0_6 x0_7 : List (List Ct)) (x1_0 x1_1 : Int) (x1_2 x1_3 x1_4 x1_5 x1_6 x1_7 : List (List Ct)) (x2_0 x2_1 : Int) (x2_2 : List (List Ct)) (b0_2 : x0_2.length ≤ 1048576) (b0_3 : x0_3.length ≤ 1048576) (b0_4 : x0_4.length ≤ 1048576) (b0_5 : x0_5.length ≤ 1048576) (b0_6 : x0_6.length ≤ 1048576) (b0_7 : x0_7.length ≤ 1048576) (b1_2 : x1_2.length ≤ 1048576) (b1_3 : x1_3.length ≤ 1048576) (b1_4 : x1_4.length ≤ 1048576) (b1_5 : x1_5.length ≤ 1048576) (b1_6 : x1_6.length ≤ 1048576) (b1_7 : x1_7.length ≤ 1048576) (b2_2 : x2_2.length ≤ 1048576) : CallOk Try.prog 9 [.sv (.agg [.val false (.int .i64 x0_0), .val false (.int .i64 x0_1), .ext 0, .ext 1, .ext 2, .ext 3, .ext 4, .ext 5]), .sv (.agg [.val false (.int .i64 x1_0), .val false (.int .i64 x1_1), .ext 6, .ext 7, .ext 8, .ext 9, .ext 10, .ext 11]), .sv (.agg [.val false (.int .i64 x2_0), .val false (.int .i64 x2_1), .ext 12])] [(0, .grid [.int .i64, .int .i64, .int .i64] x0_2), (1, .grid [.int .i64] x0_3), (2, .grid [.int .i64, .int .i64, .int .i64] x0_4), (3, .grid [.int .i64, .int .i64, .int .i64] x0_5), (4, .grid [.int .i64] x0_6), (5, .grid [.int .i64] x0_7), (6, .grid [.int .i64, .int .i64, .int .i64] x1_2), (7, .grid [.int .i64] x1_3), (8, .grid [.int .i64, .int .i64, .int .i64] x1_4), (9, .grid [.int .i64, .int .i64, .int .i64] x1_5), (10, .grid [.int .i64] x1_6), (11, .grid [.int .i64] x1_7), (12, .grid [.int .i64, .int .i64, .int .i64] x2_2)] 13 (lwb_O true) :=
  lwb_tree (lwb_true x0_0 x0_1 x0_2 x0_3 x0_4 x0_5 x0_6 x0_7 x1_0 x1_1 x1_2 x1_3 x1_4 x1_5 x1_6 x1_7 x2_0 x2_1 x2_2 b0_2 b0_3 b0_4 b0_5 b0_6 b0_7 b1_2 b1_3 b1_4 b1_5 b1_6 b1_7 b2_2)
end Go.Proofs.Ytkbhnomgkmeojaa
