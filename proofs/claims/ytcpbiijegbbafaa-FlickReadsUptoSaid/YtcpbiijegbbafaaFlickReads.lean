/- The law FlickReads: it answers true for all bytes (of a bulk that fits). No condition. -/
import Derived.Test.YtcpbiijegbbafaaFlickReadsT
import Derived.Test.YtcpbiijegbbafaaFkRead
import Derived.Test.YtcpbiijegbbafaaOpen
set_option linter.unusedVariables false
set_option linter.unusedSimpArgs false
namespace Go.Proofs.Ytcpbiijegbbafaa
open Go.RowKit

theorem lfr_true (x0 : List (List Ct)) (hl : x0.length ≤ 1048576) (hB : Byt (col x0)) : lfr_res x0 = some true := by
  obtain ⟨e, P, K, a1, a2, a3, l1, l2, m, hm, hP⟩ := fk_reads hB hl
  have b1 : fde_v x0 = (e, P) := by unfold fde_v; rw [a1]; rfl
  have b2 : rfd_v x0 = (e, P, K) := by unfold rfd_v; rw [a2]; rfl
  have b3 : fki_v x0 = (e, K) := by unfold fki_v; rw [a3]; rfl
  have i1 := isa_same (a := K) (by omega)
  have i2 : isa_v K K = true := by unfold isa_v; rw [i1]; rfl
  have it : iter (lfr_L0_step x0) 300 (0 : Int) = some (.inl (P.length : Int)) := by
    refine iter_run (fun k => (k : Int)) (n := P.length) rfl (fun k hk => ?_) ?_ (by omega)
    · have q : (k : Int) < (P.length : Int) := by omega
      have q1 : (0 : Int) ≤ (k : Int) ∧ (k : Int) < (P.length : Int) := by omega
      have ps := psa_same (D := (rd P k 2).rows) (w := (rd P k 0).int) (h := (rd P k 1).int) (by rw [hP k hk]; omega)
      have pv : psa_v (rd P k 0).int (rd P k 1).int (rd P k 2).rows (rd P k 0).int (rd P k 1).int (rd P k 2).rows = true := by unfold psa_v; rw [ps]; rfl
      simp only [lfr_L0_step, lfr_c24834117, b1, b2, Int.toNat_natCast, cond_dec q, cond_dec q1, ps, pv, Option.isSome_some, cond_true, Bool.not_true, cond_false]
      rw [wrap_succ (by omega)]
    · have q : ¬ ((P.length : Int) < (P.length : Int)) := by omega
      simp only [lfr_L0_step, b1, cond_not q]
  have pv : lfr_L0_p x0 = true := by unfold lfr_L0_p; rw [it]; rfl
  have vv : lfr_L0_v x0 = .inl (P.length : Int) := by unfold lfr_L0_v; rw [it]; rfl
  simp only [lfr_res, lfr_c56943525, a1, a2, a3, b1, b2, b3, i1, i2, pv, vv, isL, Option.isSome_some, cond_true, Bool.not_true, cond_false, bne_self_eq_false]
theorem lfr_call (x0 : List (List Ct)) (h0 : ∀ i, i < x0.length → ∀ (j : Nat) s, [Sh.int IntKind.u8][j]? = some s → CtWf 7 s (rd x0 i j)) (hl : x0.length ≤ 1048576) : CallOk Try.prog 8 [.sv (.one (.ext 0))] [(0, .grid [.int .u8] x0)] 1 (lfr_O true) := by
  refine lfr_tree (lfr_true x0 hl ?_)
  intro y hy
  obtain ⟨i, hi, rfl⟩ := List.mem_iff_getElem.1 hy
  have hi' : i < x0.length := by rw [col_length] at hi; exact hi
  have h := h0 i hi' 0 (.int .u8) rfl
  have h1 : (Lit.int IntKind.u8 (rd x0 i 0).int).wf = true := h
  rw [rd_col, List.getD_eq_getElem?_getD, List.getElem?_eq_getElem hi] at h1
  simp [Lit.wf, IntKind.min, IntKind.max, IntKind.bits, IntKind.signed] at h1
  omega
end Go.Proofs.Ytcpbiijegbbafaa
