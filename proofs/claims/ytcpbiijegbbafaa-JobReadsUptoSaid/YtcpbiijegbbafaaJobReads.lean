/- The law JobReads: it answers true for all bytes of bulk. The bound is the statement's own. -/
import Derived.Test.YtcpbiijegbbafaaJobParse
import Derived.Test.YtcpbiijegbbafaaSceneLawF
import Derived.Test.YtcpbiijegbbafaaOpenB
import Derived.Test.YtcpbiijegbbafaaJobReadsT
set_option linter.unusedVariables false
set_option linter.unusedSimpArgs false
namespace Go.Proofs.Ytcpbiijegbbafaa
open Go.RowKit

theorem jawakeR : (jpa_res [[Ct.i (90 : Int)], [Ct.i (79 : Int)], [Ct.i (69 : Int)], [Ct.i (50 : Int)]]).isSome = true ∧ (jpa_res [[Ct.i (90 : Int)], [Ct.i (79 : Int)]]).isSome = true ∧
    (jpa_v [[Ct.i (90 : Int)], [Ct.i (79 : Int)], [Ct.i (69 : Int)], [Ct.i (50 : Int)]]).2.2.2.2.2.2.2.2.2.2.2.2.2.1 = 20 ∧ (jpa_v [[Ct.i (90 : Int)], [Ct.i (79 : Int)]]).2.2.2.2.2.2.2.2.2.2.2.2.2.1 = 9 := ⟨by kernel_rfl, by kernel_rfl, by kernel_rfl, by kernel_rfl⟩
theorem byt_of {x0 : List (List Ct)} (h : ∀ i, i < x0.length → ∀ (j : Nat) s, [Sh.int IntKind.u8][j]? = some s → CtWf 7 s (rd x0 i j)) : Byt (col x0) := by
  intro y hy
  obtain ⟨i, hi, rfl⟩ := List.getElem_of_mem hy
  rw [col_length] at hi
  have h1 : (Lit.int IntKind.u8 (rd x0 i 0).int).wf = true := h i hi 0 _ rfl
  have e : (col x0)[i]'(by rw [col_length]; exact hi) = (rd x0 i 0).int := by rw [rd_col]; simp [List.getD, col_length, hi]
  rw [e]
  simp [Lit.wf, IntKind.min, IntKind.max, IntKind.bits, IntKind.signed] at h1
  omega
theorem jpr_is (B : List (List Ct)) : jpr_res B = jpa_res B := by kernel_rfl
theorem jpr_v_is (B : List (List Ct)) : jpr_v B = jpa_v B := by unfold jpr_v jpa_v; rw [jpr_is]
theorem ljr_L0_is {B : List (List Ct)} (hl : B.length ≤ 1048576) : ljr_L0_p B = true := by
  have main : ∀ (d k fuel : Nat) (r : List (List Ct)), k + d = B.length → d < fuel → r.length = B.length → (iter (ljr_L0_step B) fuel ((k : Int), r)).isSome = true := by
    intro d
    induction d with
    | zero =>
      intro k fuel r hk hf hr
      obtain ⟨fuel, rfl⟩ : ∃ j, fuel = j + 1 := ⟨fuel - 1, by omega⟩
      have q : ¬ ((k : Int) < ((([] ++ B).length : Nat) : Int)) := by rw [List.nil_append]; omega
      rw [iter_inr (r := ((k : Int), r)) (by simp only [ljr_L0_step, cond_not q])]; rfl
    | succ d ih =>
      intro k fuel r hk hf hr
      obtain ⟨fuel, rfl⟩ : ∃ j, fuel = j + 1 := ⟨fuel - 1, by omega⟩
      have q : ((k : Int) < ((([] ++ B).length : Nat) : Int)) := by rw [List.nil_append]; omega
      have q2 : (0 : Int) ≤ (k : Int) ∧ (k : Int) < (r.length : Int) := by omega
      obtain ⟨r', hr', hst⟩ : ∃ r' : List (List Ct), r'.length = B.length ∧ ljr_L0_step B ((k : Int), r) = some (.inl (((k + 1 : Nat) : Int), r')) :=
        Exists.intro (r.set ((k : Int)).toNat (updRow 1 0 [Ct.i (IntKind.u8.wrap (((BitVec.ofInt IntKind.u8.bits (rd r ((k : Int)).toNat 0).int ^^^ BitVec.ofInt IntKind.u8.bits (255 : Int)).toNat : Nat) : Int))] (r.getD ((k : Int)).toNat []))) ⟨(List.length_set).trans hr, by simp only [ljr_L0_step, cond_dec q, cond_dec q2, wrap_succ (k := k) (by omega)]⟩
      rw [iter_inl hst]
      exact ih (k + 1) fuel r' (by omega) (by omega) hr'
  exact main B.length 0 (B.length + 1) ([] ++ B) (by omega) (by omega) (by simp)
theorem ljr_true {B : List (List Ct)} (hB : Byt (col B)) (hl : B.length ≤ 1048576) : ljr_res B = some true := by
  obtain ⟨j1, j2, j3, j4⟩ := jawakeR
  obtain ⟨x0, x1, x2, x3, x4, x5, x6, x7, x8, x9, x10, x11, x12, err, P, T, J, S, ⟨a1, a2⟩, ⟨b1, b2⟩, ⟨hP, hT, hJ, hS⟩, ⟨lP, lT, lJ, lS⟩, lK⟩ := parse_like hB
  obtain ⟨c1, c2⟩ := sfr_ok (x0 := x0) (x1 := x1) (x2 := x2) (x3 := x3) (x4 := x4) (x5 := x5) (x6 := x6) (x7 := x7) (x8 := x8) (x9 := x9) (x10 := x10) (x11 := x11) (x12 := x12) (P := P) (T := T) (J := J) (S := S) (by omega) (by omega) lK (by omega) (by omega)
  obtain ⟨d1, d2⟩ := sam_ok (x0 := x0) (x1 := x1) (x2 := x2) (x3 := x3) (x4 := x4) (x5 := x5) (x6 := x6) (x7 := x7) (x8 := x8) (x9 := x9) (x10 := x10) (x11 := x11) (x12 := x12) (P := P) (T := T) (J := J) (S := S) (by omega) (by omega) lK (by omega) (by omega)
  rw [hP, hT, hJ, hS] at c1 c2 d1 d2
  unfold ljr_res
  refine ob_step (by omega) ?_
  simp only [List.nil_append, jpr_is, jpr_v_is, ljr_L0_is hl, j1, j2, j3, j4, ljr_c15042849, ljr_c16922341, ljr_c24917449, ljr_c54425565, ljr_c91502572, a1, a2, b1, b2, c1, c2, d1, d2, Option.isSome_some, cond_true, beq_self_eq_true]
theorem ljr_call (x0 : List (List Ct)) (hW : ∀ i, i < x0.length → ∀ (j : Nat) s, [Sh.int IntKind.u8][j]? = some s → CtWf 7 s (rd x0 i j)) (h0 : x0.length ≤ 1048576) : CallOk Try.prog 3 [.sv (.one (.ext 0))] [(0, .grid [.int .u8] x0)] 1 (ljr_O true) :=
  ljr_tree (ljr_true (byt_of hW) h0)
end Go.Proofs.Ytcpbiijegbbafaa
