/- What the laws of jobs share: the examples; a scene's bytes are its copy's. No condition. -/
import Derived.Test.YtcpbiijegbbafaaEngJob7
import Derived.Test.YtcpbiijegbbafaaJobWP
import Derived.Test.YtcpbiijegbbafaaSceneChk
import Derived.Test.YtcpbiijegbbafaaSceneLawT
set_option linter.unusedVariables false
set_option linter.unusedSimpArgs false
namespace Go.Proofs.Ytcpbiijegbbafaa
open Go.RowKit

theorem jawake : (jpa_res [[Ct.i (90 : Int)], [Ct.i (79 : Int)], [Ct.i (69 : Int)], [Ct.i (50 : Int)]]).isSome = true ∧ (jpa_res [[Ct.i (90 : Int)], [Ct.i (79 : Int)]]).isSome = true ∧
    (jpa_v [[Ct.i (90 : Int)], [Ct.i (79 : Int)], [Ct.i (69 : Int)], [Ct.i (50 : Int)]]).2.2.2.2.2.2.2.2.2.2.2.2.2.1 = 20 ∧ (jpa_v [[Ct.i (90 : Int)], [Ct.i (79 : Int)]]).2.2.2.2.2.2.2.2.2.2.2.2.2.1 = 9 := ⟨by kernel_rfl, by kernel_rfl, by kernel_rfl, by kernel_rfl⟩
theorem bP_c {P : List (List Ct)} : catF (bP (cP P)) (cP P).length = catF (bP P) P.length := by
  rw [cP_length]
  refine catF_congr fun k hk => ?_
  obtain ⟨e0, e1, e2, e3, e4⟩ := cP_rd hk
  simp only [bP, e0, e1, e2, e3, e4]
theorem bJ_c {P : List (List Ct)} : catF (bJ (cJ P)) (cJ P).length = catF (bJ P) P.length := by
  rw [cJ_length]
  refine catF_congr fun k hk => ?_
  obtain ⟨e0, e1, e2, e3⟩ := cJ_rd hk
  simp only [bJ, e0, e1, e2, e3]
theorem bK_c {P : List (List Ct)} : catF (bK (cK P)) (cK P).length = catF (bK P) P.length := by
  rw [cK_length]
  refine catF_congr fun k hk => ?_
  obtain ⟨e0, e1, e2, e3⟩ := cK_rd hk
  simp only [bK, e0, e1, e2, e3]
theorem bT_c {P : List (List Ct)} : catF (bT (cT P)) (cT P).length = catF (bT P) P.length := by
  rw [cT_length]
  refine catF_congr fun k hk => ?_
  obtain ⟨e0, e1⟩ := cT_rd hk
  simp only [bT, e0, e1, bK_c]
  rw [cK_length]
theorem bS_c {P : List (List Ct)} : catF (bS (cS P)) (cS P).length = catF (bS P) P.length := by
  rw [cS_length]
  refine catF_congr fun k hk => ?_
  obtain ⟨e0, e1, e2, e3, e4, e5, e6, e7, e8, e9, e10, e11, e12⟩ := cS_rd hk
  simp only [bS, e0, e1, e2, e3, e4, e5, e6, e7, e8, e9, e10, e11, e12]
theorem bScene_c {x0 x1 x2 x3 x4 x5 x6 x7 x8 x9 x10 x11 x12 : Int} {P T J S : List (List Ct)} : bScene x0 x1 x2 x3 x4 x5 x6 x7 x8 x9 x10 x11 x12 (cP P) (cT T) (cJ J) (cS S) = bScene x0 x1 x2 x3 x4 x5 x6 x7 x8 x9 x10 x11 x12 P T J S := by
  unfold bScene
  rw [bP_c, bT_c, bJ_c, bS_c]
  simp only [bN, cP_length, cT_length, cJ_length, cS_length]
theorem u64_wf {x : Int} (h : (Lit.int .u64 x).wf = true) : 0 ≤ x ∧ x < 18446744073709551616 := by
  simp [Lit.wf, IntKind.min, IntKind.max, IntKind.signed, IntKind.bits] at h
  omega
/-- The program's Encode of a scene that may be. -/
theorem jen_is {x0 x1 x2 x3 x4 x5 x6 x7 x8 x9 x10 x11 x12 : Int} {P T J S : List (List Ct)} (hs : SmallT P T J S) :
    ((sch_v x0 x1 x2 x3 x4 x5 x7 x8 x9 x10 x11 x12 (cP P) (cT T) (cJ J) (cS S)).1 ≠ 0 → jen_res x0 x1 x2 x3 x4 x5 x6 x7 x8 x9 x10 x11 x12 (cP P) (cT T) (cJ J) (cS S) = some ((sch_v x0 x1 x2 x3 x4 x5 x7 x8 x9 x10 x11 x12 (cP P) (cT T) (cJ J) (cS S)).1, [])) ∧
    ((sch_v x0 x1 x2 x3 x4 x5 x7 x8 x9 x10 x11 x12 (cP P) (cT T) (cJ J) (cS S)).1 = 0 → ∃ u, jen_res x0 x1 x2 x3 x4 x5 x6 x7 x8 x9 x10 x11 x12 (cP P) (cT T) (cJ J) (cS S) = some (0, u) ∧ col u = bScene x0 x1 x2 x3 x4 x5 x6 x7 x8 x9 x10 x11 x12 P T J S ∧ u.length ≤ 3000000) := by
  have hp := hs.p; have ht := hs.t; have hj := hs.j; have hS := hs.s
  obtain ⟨c1, c2, c3⟩ := check_ok (x0 := x0) (x1 := x1) (x2 := x2) (x3 := x3) (x4 := x4) (x5 := x5) (x7 := x7) (x8 := x8) (x9 := x9) (x10 := x10) (x11 := x11) (x12 := x12) (P := P) (T := T) (J := J) (S := S) (by omega) (by omega) (by omega) (by omega)
  refine ⟨fun h => ?_, fun h => ?_⟩
  · have hb : ((sch_v x0 x1 x2 x3 x4 x5 x7 x8 x9 x10 x11 x12 (cP P) (cT T) (cJ J) (cS S)).1 != 0) = true := by simpa using h
    unfold jen_res
    rw [c1, hb]; rfl
  · obtain ⟨u, h1, h2, h3, h4⟩ := jen_ok (x0 := x0) (x1 := x1) (x2 := x2) (x3 := x3) (x4 := x4) (x5 := x5) (x6 := x6) (x7 := x7) (x8 := x8) (x9 := x9) (x10 := x10) (x11 := x11) (x12 := x12) (P := cP P) (T := cT T) (J := cJ J) (S := cS S) (by rw [cP_length]; omega) (by rw [cT_length]; omega) (fun k hk => by
      rw [cT_length] at hk
      rw [(cT_rd hk).2, cK_length]; have := hs.k k hk; omega) (by rw [cJ_length]; omega) (by rw [cS_length]; omega) c1 h
    obtain ⟨u1, u2⟩ := u
    subst h2
    exact ⟨u2, h1, by rw [h3, bScene_c], h4⟩
end Go.Proofs.Ytcpbiijegbbafaa
