/- The law FlickWrites: it answers true for all pictures. No condition. -/
import Derived.Test.YtcpbiijegbbafaaFlickWritesT
import Derived.Test.YtcpbiijegbbafaaFkW
import Derived.Test.YtcpbiijegbbafaaOpen
set_option linter.unusedVariables false
set_option linter.unusedSimpArgs false
namespace Go.Proofs.Ytcpbiijegbbafaa
open Go.RowKit

theorem fkFs_congr {x y : List (List Ct)} {n : Nat} (h : ∀ j, j < n → fxR x j = fxR y j) : ∀ (d k : Nat), k + d ≤ n → fkFs x k d = fkFs y k d
  | 0, _, _ => rfl
  | d + 1, k, hk => by
    rw [fkFs, fkFs, fkFs_congr h d (k + 1) (by omega)]
    congr 1
    cases k with
    | zero => rw [fkF, fkF, h 0 (by omega)]
    | succ k => rw [fkF, fkF, h k (by omega), h (k + 1) (by omega)]
theorem kdR_congr {x y : List (List Ct)} {n : Nat} (h : ∀ j, j < n → fxR x j = fxR y j) : kdR x n = kdR y n := by
  unfold kdR
  refine List.map_congr_left fun i hi => ?_
  have hi := List.mem_range.1 hi
  cases i with
  | zero => rfl
  | succ i => rw [kdI, kdI, h i (by omega), h (i + 1) hi]
theorem lfw_true (x0 : List (List Ct)) (hx : x0.length ≤ 9223372036854775807) (hW : ∀ i, i < x0.length → ∀ (j : Nat) s, [Sh.int .i64, Sh.int .i64, Sh.sl [Sh.int .u8, Sh.int .u8, Sh.int .u8]][j]? = some s → CtWf 7 s (rd x0 i j)) : lfw_res x0 = some true := by
  obtain ⟨b, l1, l2, l3⟩ := lig_is hx
  cases b with
  | false => simp only [lfw_res, l1, l2, Option.isSome_some, cond_true, Bool.not_false]
  | true =>
  obtain ⟨hn, hd⟩ := l3 rfl
  have p1 := pal_is hn hd
  have p2 : pal_v x0 = cpR x0 x0.length := by unfold pal_v; rw [p1]; rfl
  have ly : (cpR x0 x0.length).length = x0.length := cpR_length
  have hb : ∀ i, i < x0.length → ∀ k, k < (rd x0 i 2).rows.length → ∀ j, j < 3 → 0 ≤ (rd (rd x0 i 2).rows k j).int ∧ (rd (rd x0 i 2).rows k j).int < 256 := by
    intro i hi k hk j hj
    have h := (hW i hi 2 _ rfl).2 k hk j (.int .u8) (by match j, hj with | 0, _ => rfl | 1, _ => rfl | 2, _ => rfl)
    have h1 : (Lit.int IntKind.u8 (rd (rd x0 i 2).rows k j).int).wf = true := h
    simp [Lit.wf, IntKind.min, IntKind.max, IntKind.bits, IntKind.signed] at h1
    omega
  have hy : ∀ i, i < x0.length → (rd (cpR x0 x0.length) i 0).int = (rd x0 i 0).int ∧ (rd (cpR x0 x0.length) i 1).int = (rd x0 i 1).int ∧ (rd (cpR x0 x0.length) i 2).rows = (rd x0 i 2).rows := by
    intro i hi
    have e := cpR_get (x0 := x0) (k := x0.length) hi
    refine ⟨?_, ?_, ?_⟩
    · show (((cpR x0 x0.length).getD i []).getD 0 (.i 0)).int = _; rw [e]; rfl
    · show (((cpR x0 x0.length).getD i []).getD 1 (.i 0)).int = _; rw [e]; rfl
    · show (((cpR x0 x0.length).getD i []).getD 2 (.i 0)).rows = _; rw [e]; rfl
  have hgood : ∀ j, j < x0.length → (FkGood (cpR x0 x0.length) j ↔ FkGood x0 j) := by
    intro j hj
    obtain ⟨a1, a2, a3⟩ := hy j hj
    obtain ⟨b1, b2, _⟩ := hy 0 (by omega)
    unfold FkGood
    rw [a1, a2, a3, b1, b2]
  have hall : (1 ≤ (cpR x0 x0.length).length ∧ (cpR x0 x0.length).length ≤ 32 ∧ ∀ j, j < (cpR x0 x0.length).length → FkGood (cpR x0 x0.length) j) ↔ (1 ≤ x0.length ∧ x0.length ≤ 32 ∧ ∀ j, j < x0.length → FkGood x0 j) := by
    rw [ly]
    exact ⟨fun h => ⟨h.1, h.2.1, fun j hj => (hgood j hj).1 (h.2.2 j hj)⟩, fun h => ⟨h.1, h.2.1, fun j hj => (hgood j hj).2 (h.2.2 j hj)⟩⟩
  have hfx : ∀ j, j < x0.length → fxR (cpR x0 x0.length) j = fxR x0 j := fun j hj => by unfold fxR; rw [(hy j hj).2.2]
  rcases fen_is (x0 := cpR x0 x0.length) with ⟨h, hno⟩ | ⟨r, h, n1, n2, hG, hl, hc⟩
  · have hv : fen_v (cpR x0 x0.length) = (1, []) := by unfold fen_v; rw [h]; rfl
    rcases rfe_is (x0 := x0) (by omega) with ⟨g, _⟩ | ⟨r, _, n1, n2, hG, _⟩
    · have gv : rfe_v x0 = (1, [], []) := by unfold rfe_v; rw [g]; rfl
      have c : ((1 : Int) != 0) = true := rfl
      have s : ((strOf []).toList == (strOf []).toList) = true := beq_self_eq_true _
      simp only [lfw_res, lfw_c97247988, l1, l2, p1, p2, h, hv, g, gv, c, s, Option.isSome_some, cond_true, Bool.not_true, cond_false, bne_self_eq_false]
    · exact absurd (hall.2 ⟨n1, n2, hG⟩) hno
  · have hv : fen_v (cpR x0 x0.length) = (0, r) := by unfold fen_v; rw [h]; rfl
    rcases rfe_is (x0 := x0) (by omega) with ⟨_, hno⟩ | ⟨r2, g, m1, m2, hG2, hc2⟩
    · exact absurd (hall.1 ⟨n1, n2, hG⟩) hno
    · have gv : rfe_v x0 = (0, r2, kdR x0 x0.length) := by unfold rfe_v; rw [g]; rfl
      have hB : ∀ j, j < (cpR x0 x0.length).length → Byt (col (fxR (cpR x0 x0.length) j)) := by
        intro j hj
        rw [hfx j (by omega)]
        exact flR_byt (hb j (by omega))
      have k1 := fki_is n1 n2 hG hB hl hc
      rw [ly] at k1
      have k2 : kdR (cpR x0 x0.length) x0.length = kdR x0 x0.length := kdR_congr hfx
      rw [k2] at k1
      have kv : fki_v r = (0, kdR x0 x0.length) := by unfold fki_v; rw [k1]; rfl
      have e1 : lfw_c97247988 x0 = (0, r) := by unfold lfw_c97247988; rw [p2]; exact hv
      have e2 : lfw_c57182422 x0 = (0, kdR x0 x0.length) := by unfold lfw_c57182422; rw [e1]; exact kv
      have hcol : col r = col r2 := by
        obtain ⟨a1, a2, _⟩ := hy 0 (by omega)
        rw [hc, hc2, ly, a1, a2, fkFs_congr hfx x0.length 0 (by omega)]
      have s : ((strOf r).toList == (strOf r2).toList) = true := by rw [strOf_col hcol]; exact beq_self_eq_true _
      have i1 := isa_same (a := kdR x0 x0.length) (by rw [kdR_length]; omega)
      have i2 : isa_v (kdR x0 x0.length) (kdR x0 x0.length) = true := by unfold isa_v; rw [i1]; rfl
      simp only [lfw_res, lfw_c26706660, e1, e2, l1, l2, p1, p2, h, g, gv, k1, s, i1, i2, Option.isSome_some, cond_true, Bool.not_true, cond_false, bne_self_eq_false, beq_self_eq_true]
theorem lfw_call (x0 : List (List Ct)) (h : x0.length ≤ 9223372036854775807 ∧ ∀ i, i < x0.length → ∀ (j : Nat) s, [Sh.int .i64, Sh.int .i64, Sh.sl [Sh.int .u8, Sh.int .u8, Sh.int .u8]][j]? = some s → CtWf 7 s (rd x0 i j)) : CallOk Try.prog 7 [.sv (.one (.ext 0))] [(0, .grid [.int .i64, .int .i64, .sl [.int .u8, .int .u8, .int .u8]] x0)] 1 (lfw_O true) := lfw_tree (lfw_true x0 h.1 h.2)
end Go.Proofs.Ytcpbiijegbbafaa
