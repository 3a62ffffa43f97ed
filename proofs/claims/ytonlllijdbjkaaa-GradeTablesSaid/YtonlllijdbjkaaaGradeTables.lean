/- The law GradeTables: it answers true for all values. No condition. -/
import Derived.Test.YtonlllijdbjkaaaGradeRises
import Derived.Test.YtonlllijdbjkaaaGradeTablesT
set_option linter.unusedVariables false
set_option linter.unusedSimpArgs false
namespace Go.Proofs.Ytonlllijdbjkaaa
open Go.RowKit

theorem tabEq_self (n : Nat) (l : List (List Ct)) : tabEq n l l = true := by simp [tabEq]
theorem makeT_same {l l' : List (List Ct)} (h : SameL l l') : makeT l = makeT l' := by
  unfold makeT tab
  refine List.map_congr_left fun k _ => ?_
  rw [h.at']
theorem psaS_self {w h : Int} {d : List (List Ct)} : psaS w h d w h d = true := by
  have hn : findB (unlike d d) d.length 0 = none := by
    rw [findB_none]
    intro j _ _
    simp [unlike]
  unfold psaS
  rw [hn]
  simp
theorem lgt_true (x0 x1 : List (List Ct)) (x2_0 x2_1 : Int) (x2_2 : List (List Ct)) (hw : ∀ i, i < x2_2.length → ∀ (j : Nat) s, [Sh.int IntKind.u8, Sh.int IntKind.u8, Sh.int IntKind.u8][j]? = some s → CtWf 7 s (rd x2_2 i j)) : lgt_res x0 x1 x2_0 x2_1 x2_2 = some true := by
  have hb : ByteL x2_2 3 := byteL_of hw
  unfold lgt_res
  by_cases h40 : x0.length ≤ 40
  rotate_left
  · have : (40 : Int) < x0.length := by omega
    simp [this, -List.reduceReplicate]
  by_cases h41 : x1.length ≤ 40
  rotate_left
  · have : (40 : Int) < x1.length := by omega
    simp [this, -List.reduceReplicate]
  by_cases h50 : x2_2.length ≤ 5000
  rotate_left
  · have : (5000 : Int) < x2_2.length := by omega
    simp [this, -List.reduceReplicate]
  have g1 : ¬ (40 : Int) < x0.length := by omega
  have g2 : ¬ (5000 : Int) < x2_2.length := by omega
  have g3 : ¬ (40 : Int) < x1.length := by omega
  have t1 : (bif decide ((x0.length : Int) > 40) then true else bif decide ((x1.length : Int) > 40) then true else decide ((x2_2.length : Int) > 5000)) = false := by simp [g1, g2, g3]
  have t2 : decide (x0.length ≤ 1000) = true := by simp; omega
  have t3 : decide (x1.length ≤ 1000) = true := by simp; omega
  have e0 : (bif bif decide (x2_0 ≥ (1 : Int)) then bif decide (x2_0 ≤ (64 : Int)) then bif decide (x2_1 ≥ (1 : Int)) then decide (x2_1 ≤ (64 : Int)) else false else false else false then ((x2_2.length : Nat) : Int) == IntKind.i64.wrap (x2_0 * x2_1) else false) = picB x2_0 x2_1 x2_2 := rfl
  have c0 : lgt_c73451285 x0 = makeT x0 := makeT_same (gto_same x0)
  have c1 : lgt_c10534109 x1 = makeT x1 := makeT_same (gto_same x1)
  have r0 : rmk_v x0 = makeT x0 := rfl
  have r1 : rmk_v x1 = makeT x1 := rfl
  have lr : (List.replicate 256 [Ct.i 0]).length = 256 := List.length_replicate ..
  have l0 : (makeT x0).length = 256 := makeT_length
  have l1 : (makeT x1).length = 256 := makeT_length
  have b0 : byteB (makeT x0) 1 = true := byteB_iff.2 makeT_bytes
  have bd : byteB x2_2 3 = true := byteB_iff.2 hb
  have hL : iter (lgt_L0_step x0 x1) 257 (0, List.replicate 256 [Ct.i 0]) = some (256, thenT (makeT x0) (makeT x1)) := by
    refine iter_arr (n := 256) (fun k => .i (rd (makeT x1) (rd (makeT x0) k 0).int.toNat 0).int) (fun k l hk hl => ?_) (fun l hl => by simp [lgt_L0_step]) rfl
    have e1 : (k : Int) < 256 := by omega
    have w1 := wrap_succ (k := k) (by omega)
    obtain ⟨p1, p2⟩ := makeT_bytes (l := x0) k (by omega) 0 (by omega)
    simp [lgt_L0_step, r0, r1, e1, hl, w1, upd1, hk, l0, l1, p1, p2]
  have p0 : lgt_L0_p x0 x1 = true := by unfold lgt_L0_p; rw [hL]; rfl
  have v0 : (lgt_L0_v x0 x1).snd = thenT (makeT x0) (makeT x1) := by unfold lgt_L0_v loopRes; rw [hL]; rfl
  have c2 : lgt_c12310042 x0 x1 = thenT (makeT x0) (makeT x1) := by
    show then_v (lgt_c73451285 x0) (lgt_c10534109 x1) = _
    rw [c0, c1]; rfl
  have lt : (thenT (makeT x0) (makeT x1)).length = 256 := tab_length _ _
  have two0 : decide ((List.replicate 256 [Ct.i 0]).length = 256 ∧ (makeT x0).length = 256) = true := by rw [lr, l0]; rfl
  have two1 : decide ((List.replicate 256 [Ct.i 0]).length = 256 ∧ (makeT x1).length = 256) = true := by rw [lr, l1]; rfl
  have le0 : decide (256 ≤ (makeT x0).length) = true := by rw [l0]; rfl
  have le1 : decide (256 ≤ (makeT x1).length) = true := by rw [l1]; rfl
  have eq0 : decide ((makeT x0).length = 256) = true := by rw [l0]; rfl
  have eq1 : decide ((makeT x1).length = 256) = true := by rw [l1]; rfl
  have lle : decide (256 ≤ (thenT (makeT x0) (makeT x1)).length) = true := by rw [lt]; rfl
  have o1 : decide (0 + x2_2.length ≤ 9223372036854775807 ∧ (0 + x2_2.length) * 3 ≤ 140737488355328) = true := by simp; omega
  have e1 : ([] : List (List Ct)) ++ x2_2 = x2_2 := rfl
  have d5 : decide (x2_2.length ≤ 5000) = true := by simp [h50]
  have sv : lgt_c53473498 x2_0 x2_1 x2_2 = (bif picB x2_0 x2_1 x2_2 then (sprT x2_2, 0) else (List.replicate 256 [.i 0], 1)) := rfl
  have av : lgt_c85177986 x0 x2_0 x2_1 x2_2 = (bif picB x2_0 x2_1 x2_2 then (x2_0, x2_1, 0, applyT (makeT x0) x2_2) else (0, 0, 1, [])) := by
    show tap_v (lgt_c73451285 x0) x2_0 x2_1 ([] ++ x2_2) = _
    rw [c0]; rfl
  have rv : lgt_c73979247 x0 x2_0 x2_1 x2_2 = (x2_0, x2_1, applyT (makeT x0) x2_2) := rfl
  have ls : (sprT x2_2).length = 256 := tab_length _ _
  simp only [t1, t2, t3, e0, c0, c1, r0, r1, p0, v0, c2, two0, two1, le0, le1, eq0, eq1, lle, b0, bd, o1, e1, d5, tabEq_self, Bool.not_true, Bool.true_and, Bool.and_true, cond_true, cond_false]
  cases hp : picB x2_0 x2_1 x2_2 with
  | false =>
    rw [hp] at sv av
    have sv : lgt_c53473498 x2_0 x2_1 x2_2 = (List.replicate 256 [.i 0], 1) := sv
    have av : lgt_c85177986 x0 x2_0 x2_1 x2_2 = (0, 0, 1, []) := av
    have lz : decide (256 ≤ (List.replicate 256 [Ct.i 0]).length) = true := by rw [lr]; rfl
    have two : decide ((List.replicate 256 [Ct.i 0]).length = 256 ∧ (List.replicate 256 [Ct.i 0]).length = 256) = true := by rw [lr]; rfl
    have z1 : ((1 : Int) == 1) = true := rfl
    have z0 : (((([] : List (List Ct)).length : Nat) : Int) == 0) = true := rfl
    simp only [sv, av, two, lz, z1, z0, tabEq_self, cond_true, Bool.not_false]
  | true =>
    rw [hp] at sv av
    have sv : lgt_c53473498 x2_0 x2_1 x2_2 = (sprT x2_2, 0) := sv
    have av : lgt_c85177986 x0 x2_0 x2_1 x2_2 = (x2_0, x2_1, 0, applyT (makeT x0) x2_2) := av
    have same : lgt_c95007352 x0 x2_0 x2_1 x2_2 = true := by
      show psa_v _ _ _ _ _ _ = _
      rw [av, rv]
      exact psaS_self
    have rs : rsp_v x2_2 = sprT x2_2 := rfl
    have lz : decide (256 ≤ (sprT x2_2).length) = true := by rw [ls]; rfl
    have two : decide ((List.replicate 256 [Ct.i 0]).length = 256 ∧ (sprT x2_2).length = 256) = true := by rw [lr, ls]; rfl
    have z0 : ((0 : Int) == 0) = true := rfl
    have al : decide ((applyT (makeT x0) x2_2).length < 9223372036854775807) = true := by rw [applyT_length]; simp; omega
    have pos : decide (0 < x2_2.length) = true := by simp [(picB_pos hp).1]
    simp only [sv, av, rs, same, two, lz, z0, al, pos, tabEq_self, cond_true, cond_false, Bool.not_true, Bool.true_and, Bool.and_true]
theorem lgt_call (x0 x1 : List (List Ct)) (x2_0 x2_1 : Int) (x2_2 : List (List Ct)) (hw : ∀ i, i < x2_2.length → ∀ (j : Nat) s, [Sh.int IntKind.u8, Sh.int IntKind.u8, Sh.int IntKind.u8][j]? = some s → CtWf 7 s (rd x2_2 i j)) : CallOk Try.prog 5 [.sv (.one (.ext 0)), .sv (.one (.ext 1)), .sv (.agg [.val false (.int .i64 x2_0), .val false (.int .i64 x2_1), .ext 2])] [(0, .grid [.int .i64, .int .i64] x0), (1, .grid [.int .i64, .int .i64] x1), (2, .grid [.int .u8, .int .u8, .int .u8] x2_2)] 3 (lgt_O true) := lgt_tree (lgt_true x0 x1 x2_0 x2_1 x2_2 hw)
end Go.Proofs.Ytonlllijdbjkaaa
