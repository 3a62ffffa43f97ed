/- The law FlickBack: it answers true for all pictures. No condition. -/
import Derived.Test.YtcpbiijegbbafaaFlickBackT
import Derived.Test.YtcpbiijegbbafaaFkPlain
import Derived.Test.YtcpbiijegbbafaaOpen
set_option linter.unusedVariables false
set_option linter.unusedSimpArgs false
namespace Go.Proofs.Ytcpbiijegbbafaa
open Go.RowKit

theorem lfb_true (x0 : List (List Ct)) (hx : x0.length ≤ 9223372036854775807) (hW : ∀ i, i < x0.length → ∀ (j : Nat) s, [Sh.int .i64, Sh.int .i64, Sh.sl [Sh.int .u8, Sh.int .u8, Sh.int .u8]][j]? = some s → CtWf 7 s (rd x0 i j)) : lfb_res x0 = some true := by
  obtain ⟨b, l1, l2, l3⟩ := lig_is hx
  cases b with
  | false => simp only [lfb_res, l1, l2, Option.isSome_some, cond_true, Bool.not_false]
  | true =>
  obtain ⟨hn, hd⟩ := l3 rfl
  have p1 := pal_is hn hd
  have p2 : pal_v x0 = cpR x0 x0.length := by unfold pal_v; rw [p1]; rfl
  have ly : (cpR x0 x0.length).length = x0.length := cpR_length
  have hb : ∀ i, i < x0.length → ∀ k, k < (rd x0 i 2).rows.length → ∀ j, j < 3 → 0 ≤ (rd (rd x0 i 2).rows k j).int ∧ (rd (rd x0 i 2).rows k j).int < 256 := by
    intro i hi k hk j hj
    have h := (hW i hi 2 _ rfl).2 k hk j (.int .u8) (by match j, hj with | 0, _ => rfl | 1, _ => rfl | 2, _ => rfl)
    have h1 : (Lit.int IntKind.u8 (rd (rd x0 i 2).rows k j).int).wf = true := h
    simp [Lit.wf, IntKind.min, IntKind.max, IntKind.bits, IntKind.signed] at h1
    omega
  have hy : ∀ i, i < x0.length → (rd (cpR x0 x0.length) i 0).int = (rd x0 i 0).int ∧ (rd (cpR x0 x0.length) i 1).int = (rd x0 i 1).int ∧ (rd (cpR x0 x0.length) i 2).rows = (rd x0 i 2).rows := by
    intro i hi
    have e := cpR_get (x0 := x0) (k := x0.length) hi
    refine ⟨?_, ?_, ?_⟩
    · show (((cpR x0 x0.length).getD i []).getD 0 (.i 0)).int = _; rw [e]; rfl
    · show (((cpR x0 x0.length).getD i []).getD 1 (.i 0)).int = _; rw [e]; rfl
    · show (((cpR x0 x0.length).getD i []).getD 2 (.i 0)).rows = _; rw [e]; rfl
  rcases fen_is (x0 := cpR x0 x0.length) with h | ⟨r, h, n1, n2, hG, hl, hc⟩
  · have hv : fen_v (cpR x0 x0.length) = (1, []) := by unfold fen_v; rw [h]; rfl
    have c : ((1 : Int) != 0) = true := rfl
    simp only [lfb_res, lfb_c97247988, l1, l2, p1, p2, h, hv, c, Option.isSome_some, cond_true, Bool.not_true, cond_false]
    rfl
  · have hv : fen_v (cpR x0 x0.length) = (0, r) := by unfold fen_v; rw [h]; rfl
    have hB : ∀ j, j < (cpR x0 x0.length).length → Byt (col (fxR (cpR x0 x0.length) j)) := by
      intro j hj
      unfold fxR
      rw [(hy j (by omega)).2.2]
      exact flR_byt (hb j (by omega))
    have hf := fde_is n1 n2 hG hB hl hc
    rw [ly] at hf
    have hfv : fde_v r = (0, pcR (cpR x0 x0.length) (rd (cpR x0 x0.length) 0 2).rows.length x0.length) := by unfold fde_v; rw [hf]; rfl
    have lp : (pcR (cpR x0 x0.length) (rd (cpR x0 x0.length) 0 2).rows.length x0.length).length = x0.length := pcR_length
    have e1 : lfb_c97247988 x0 = (0, r) := by unfold lfb_c97247988; rw [p2]; exact hv
    have e2 : lfb_c76850496 x0 = (0, pcR (cpR x0 x0.length) (rd (cpR x0 x0.length) 0 2).rows.length x0.length) := by unfold lfb_c76850496; rw [e1]; exact hfv
    have it : iter (lfb_L0_step x0) (x0.length + 1) (0 : Int) = some (.inl (x0.length : Int)) := by
      refine iter_run (fun k => (k : Int)) (n := x0.length) rfl (fun k hk => ?_) ?_ (by omega)
      · have q : (k : Int) < (x0.length : Int) := by omega
        have q1 : (0 : Int) ≤ (k : Int) ∧ (k : Int) < (x0.length : Int) := by omega
        obtain ⟨y0, y1, y2⟩ := hy k hk
        have g := hG k (by omega)
        have gs := g.same (hG 0 (by omega))
        obtain ⟨_, _, g3, g4⟩ := g
        have e : (pcR (cpR x0 x0.length) (rd (cpR x0 x0.length) 0 2).rows.length x0.length).getD k [] = [Ct.i (rd x0 k 0).int, Ct.i (rd x0 k 1).int, Ct.l (ctR (flR (rd x0 k 2).rows) (rd x0 k 2).rows.length)] := by
          rw [← y0, ← y1, g3, g4, ← y2, gs]
          simp [pcR, fxR, List.getD_eq_getElem?_getD, hk]
        have r0 : (rd (pcR (cpR x0 x0.length) (rd (cpR x0 x0.length) 0 2).rows.length x0.length) k 0).int = (rd x0 k 0).int := by show (((pcR _ _ _).getD k []).getD 0 (.i 0)).int = _; rw [e]; rfl
        have r1 : (rd (pcR (cpR x0 x0.length) (rd (cpR x0 x0.length) 0 2).rows.length x0.length) k 1).int = (rd x0 k 1).int := by show (((pcR _ _ _).getD k []).getD 1 (.i 0)).int = _; rw [e]; rfl
        have r2 : (rd (pcR (cpR x0 x0.length) (rd (cpR x0 x0.length) 0 2).rows.length x0.length) k 2).rows = ctR (flR (rd x0 k 2).rows) (rd x0 k 2).rows.length := by show (((pcR _ _ _).getD k []).getD 2 (.i 0)).rows = _; rw [e]; rfl
        have ps := psa_is (D := (rd x0 k 2).rows) (w := (rd x0 k 0).int) (h := (rd x0 k 1).int) (hd k hk)
        have pv : psa_v (rd x0 k 0).int (rd x0 k 1).int (ctR (flR (rd x0 k 2).rows) (rd x0 k 2).rows.length) (rd x0 k 0).int (rd x0 k 1).int (rd x0 k 2).rows = true := by unfold psa_v; rw [ps]; rfl
        simp only [lfb_L0_step, lfb_c95195386, Int.toNat_natCast, e2, lp, cond_dec q, cond_dec q1, r0, r1, r2, ps, pv, Option.isSome_some, cond_true, Bool.not_true, cond_false]
        rw [wrap_succ (by omega)]
      · have q : ¬ ((x0.length : Int) < (x0.length : Int)) := by omega
        simp only [lfb_L0_step, e2, lp, cond_not q]
    have pv : lfb_L0_p x0 = true := by unfold lfb_L0_p; rw [it]; rfl
    have vv : lfb_L0_v x0 = .inl (x0.length : Int) := by unfold lfb_L0_v; rw [it]; rfl
    simp only [lfb_res, e1, e2, l1, l2, p1, p2, h, hf, lp, pv, vv, isL, Option.isSome_some, cond_true, Bool.not_true, cond_false, bne_self_eq_false]
theorem lfb_call (x0 : List (List Ct)) (h : x0.length ≤ 9223372036854775807 ∧ ∀ i, i < x0.length → ∀ (j : Nat) s, [Sh.int .i64, Sh.int .i64, Sh.sl [Sh.int .u8, Sh.int .u8, Sh.int .u8]][j]? = some s → CtWf 7 s (rd x0 i j)) : CallOk Try.prog 9 [.sv (.one (.ext 0))] [(0, .grid [.int .i64, .int .i64, .sl [.int .u8, .int .u8, .int .u8]] x0)] 1 (lfb_O true) := lfb_tree (lfb_true x0 h.1 h.2)
end Go.Proofs.Ytcpbiijegbbafaa
