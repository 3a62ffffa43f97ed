/- Both Parses: the same scene, or the same reason. No condition. -/
import Derived.Test.YtcpbiijegbbafaaJobLikeB
set_option linter.unusedVariables false
set_option linter.unusedSimpArgs false
namespace Go.Proofs.Ytcpbiijegbbafaa
open Go.RowKit

theorem parse_like {B : List (List Ct)} (hB : Byt (col B)) :
    ∃ x0 x1 x2 x3 x4 x5 x6 x7 x8 x9 x10 x11 x12 err P T J S, (jpa_res B = some (x0, x1, x2, x3, x4, x5, x6, x7, x8, x9, x10, x11, x12, err, P, T, J, S) ∧ jpa_v B = (x0, x1, x2, x3, x4, x5, x6, x7, x8, x9, x10, x11, x12, err, P, T, J, S)) ∧ (rpa_res B = some (x0, x1, x2, x3, x4, x5, x6, x7, x8, x9, x10, x11, x12, err, P, T, J, S) ∧ rpa_v B = (x0, x1, x2, x3, x4, x5, x6, x7, x8, x9, x10, x11, x12, err, P, T, J, S)) ∧ (cP P = P ∧ cT T = T ∧ cJ J = J ∧ cS S = S) ∧ (P.length ≤ 255 ∧ T.length ≤ 255 ∧ J.length ≤ 255 ∧ S.length ≤ 255) ∧ ∀ k, k < T.length → (rd T k 1).rows.length ≤ 1048576 := by
  have fin : ∀ x, jpa_res B = some x → rpa_res B = some x → (jpa_res B = some x ∧ jpa_v B = x) ∧ (rpa_res B = some x ∧ rpa_v B = x) := fun x h1 h2 => ⟨⟨h1, by unfold jpa_v; rw [h1]; rfl⟩, ⟨h2, by unfold rpa_v; rw [h2]; rfl⟩⟩
  have bad : ∀ e : Int, jpa_res B = some (0, 0, 0, 0, 0, 0, 0, 0, 0, 0, 0, 0, 0, e, [], [], [], []) → rpa_res B = some (0, 0, 0, 0, 0, 0, 0, 0, 0, 0, 0, 0, 0, e, [], [], [], []) → ∃ x0 x1 x2 x3 x4 x5 x6 x7 x8 x9 x10 x11 x12 err P T J S, (jpa_res B = some (x0, x1, x2, x3, x4, x5, x6, x7, x8, x9, x10, x11, x12, err, P, T, J, S) ∧ jpa_v B = (x0, x1, x2, x3, x4, x5, x6, x7, x8, x9, x10, x11, x12, err, P, T, J, S)) ∧ (rpa_res B = some (x0, x1, x2, x3, x4, x5, x6, x7, x8, x9, x10, x11, x12, err, P, T, J, S) ∧ rpa_v B = (x0, x1, x2, x3, x4, x5, x6, x7, x8, x9, x10, x11, x12, err, P, T, J, S)) ∧ (cP P = P ∧ cT T = T ∧ cJ J = J ∧ cS S = S) ∧ (P.length ≤ 255 ∧ T.length ≤ 255 ∧ J.length ≤ 255 ∧ S.length ≤ 255) ∧ ∀ k, k < T.length → (rd T k 1).rows.length ≤ 1048576 := fun e h1 h2 => by
    obtain ⟨a, b⟩ := fin _ h1 h2
    exact ⟨0, 0, 0, 0, 0, 0, 0, 0, 0, 0, 0, 0, 0, e, [], [], [], [], a, b, ⟨rfl, rfl, rfl, rfl⟩, ⟨by simp, by simp, by simp, by simp⟩, fun k hk => absurd hk (by simp)⟩
  by_cases hl' : (B.length : Int) > 65536
  · exact bad 8 (by unfold jpa_res; rw [cond_dec hl']) (by unfold rpa_res; rw [cond_dec hl'])
  have hl : B.length ≤ 1048576 := by omega
  have L0 : Like B ([] ++ B) 0 0 0 := ⟨rfl, fun _ => ⟨0, rfl, by omega, by simp⟩, fun h => absurd rfl h⟩
  have q0 : rrd_res B = some ([] ++ B) := by unfold rrd_res; exact ob_step (by omega) rfl
  have q1 : rrd_v B = [] ++ B := by unfold rrd_v; rw [q0]; rfl
  obtain ⟨e1, b1, A1, E1, km, ⟨hmg, hmg2⟩, gm, L1⟩ := magic_like hB hl L0
  have d0 : rpa_L0_p B = true := (res_of gm).1
  have d1 : rpa_L0_v B = (km, A1, E1) := (res_of gm).2
  obtain ⟨x0, x1, x2, x3, x4, x5, x6, x7, x8, x9, x10, x11, x12, e2, b2, A2, E2, ⟨hh1, hh2⟩, L2, B0, F0, B1, F1, B2, F2, B3, F3, B4, F4, B5, F5, B6, F6, B7, F7, B8, F8, B9, F9, ⟨m0, n0⟩, ⟨m1, n1⟩, ⟨m2, n2⟩, ⟨m3, n3⟩, ⟨m4, n4⟩, ⟨m5, n5⟩, ⟨m6, n6⟩, ⟨m7, n7⟩, ⟨m8, n8⟩, ⟨m9, n9⟩, ⟨m10, n10⟩, w0, w1, w2, w3, w4, w10, w11⟩ := head_like hB hl L1
  obtain ⟨y0, e3, b3, A3, E3, ⟨r0, s0⟩, ⟨mm0, nn0⟩, ⟨y00, y01, y02⟩, L3⟩ := mn_like hB hl L2 32 22 (by omega) (by omega)
  obtain ⟨y1, e4, b4, A4, E4, ⟨r1, s1⟩, ⟨mm1, nn1⟩, ⟨y10, y11, y12⟩, L4⟩ := mn_like hB hl L3 32 23 (by omega) (by omega)
  obtain ⟨y2, e5, b5, A5, E5, ⟨r2, s2⟩, ⟨mm2, nn2⟩, ⟨y20, y21, y22⟩, L5⟩ := mn_like hB hl L4 32 24 (by omega) (by omega)
  obtain ⟨y3, e6, b6, A6, E6, ⟨r3, s3⟩, ⟨mm3, nn3⟩, ⟨y30, y31, y32⟩, L6⟩ := mn_like hB hl L5 128 25 (by omega) (by omega)
  obtain ⟨z0, rfl⟩ := Int.eq_ofNat_of_zero_le y00
  obtain ⟨z1, rfl⟩ := Int.eq_ofNat_of_zero_le y10
  obtain ⟨z2, rfl⟩ := Int.eq_ofNat_of_zero_le y20
  obtain ⟨z3, rfl⟩ := Int.eq_ofNat_of_zero_le y30
  obtain ⟨k1, e7, b7, P, k2, A7, E7, f1, f2, L7, hP, hPl⟩ := paints_like hB hl (n := z0) (by omega) (by simp only [rpa_c12864592, rpa_c16769207, rpa_c18288685, rpa_c18467662, rpa_c19140520, rpa_c19884455, rpa_c20495894, rpa_c23370630, rpa_c26482445, rpa_c2860090, rpa_c29551071, rpa_c3374069, rpa_c33745110, rpa_c34324691, rpa_c41454612, rpa_c47952215, rpa_c48851167, rpa_c50518072, rpa_c51777491, rpa_c54414002, rpa_c54657020, rpa_c62440858, rpa_c64147426, rpa_c658694, rpa_c69058906, rpa_c75046149, rpa_c79224799, rpa_c79782173, rpa_c80283000, rpa_c88260628, d1, n0, n1, n2, n3, n4, n5, n6, n7, n8, n9, n10, nn0]) L6
  obtain ⟨jp0, jv0⟩ := res_of f1
  obtain ⟨rp2, rv2⟩ := res_of f2
  replace jp0 : jpa_L0_p B = true := by simp only [jpa_L0_p, jpa_c20883189, jpa_c47053767, jpa_c47249889, jpa_c4755454, jpa_c50623285, jpa_c5883654, jpa_c60236699, jpa_c65951607, jpa_c73035710, jpa_c73656058, jpa_c80005064, jpa_c83617453, q1, hmg2, hh2, s0, s1, s2, s3]; exact jp0
  replace jv0 : jpa_L0_v B = (k1, e7, b7, P) := by simp only [jpa_L0_v, jpa_c20883189, jpa_c47053767, jpa_c47249889, jpa_c4755454, jpa_c50623285, jpa_c5883654, jpa_c60236699, jpa_c65951607, jpa_c73035710, jpa_c73656058, jpa_c80005064, jpa_c83617453, q1, hmg2, hh2, s0, s1, s2, s3]; exact jv0
  replace rp2 : rpa_L2_p B = true := by simp only [rpa_L2_p, rpa_c12864592, rpa_c16769207, rpa_c18288685, rpa_c18467662, rpa_c19140520, rpa_c19884455, rpa_c20495894, rpa_c23370630, rpa_c26482445, rpa_c2860090, rpa_c29551071, rpa_c3374069, rpa_c33745110, rpa_c34324691, rpa_c41454612, rpa_c47952215, rpa_c48851167, rpa_c50518072, rpa_c51777491, rpa_c54414002, rpa_c54657020, rpa_c62440858, rpa_c64147426, rpa_c658694, rpa_c69058906, rpa_c75046149, rpa_c79224799, rpa_c79782173, rpa_c80283000, rpa_c88260628, d1, n0, n1, n2, n3, n4, n5, n6, n7, n8, n9, n10, nn0, nn1, nn2, nn3]; exact rp2
  replace rv2 : rpa_L2_v B = (k2, A7, E7, P) := by simp only [rpa_L2_v, rpa_c12864592, rpa_c16769207, rpa_c18288685, rpa_c18467662, rpa_c19140520, rpa_c19884455, rpa_c20495894, rpa_c23370630, rpa_c26482445, rpa_c2860090, rpa_c29551071, rpa_c3374069, rpa_c33745110, rpa_c34324691, rpa_c41454612, rpa_c47952215, rpa_c48851167, rpa_c50518072, rpa_c51777491, rpa_c54414002, rpa_c54657020, rpa_c62440858, rpa_c64147426, rpa_c658694, rpa_c69058906, rpa_c75046149, rpa_c79224799, rpa_c79782173, rpa_c80283000, rpa_c88260628, d1, n0, n1, n2, n3, n4, n5, n6, n7, n8, n9, n10, nn0, nn1, nn2, nn3]; exact rv2
  obtain ⟨k3, e8, b8, T, k4, A8, E8, f3, f4, L8, hT, hTl, hTf⟩ := tracks_like hB hl (n := z1) (by omega) (by simp only [rpa_c12864592, rpa_c16769207, rpa_c18288685, rpa_c18467662, rpa_c19140520, rpa_c19884455, rpa_c20495894, rpa_c23370630, rpa_c26482445, rpa_c2860090, rpa_c29551071, rpa_c3374069, rpa_c33745110, rpa_c34324691, rpa_c41454612, rpa_c47952215, rpa_c48851167, rpa_c50518072, rpa_c51777491, rpa_c54414002, rpa_c54657020, rpa_c62440858, rpa_c64147426, rpa_c658694, rpa_c69058906, rpa_c75046149, rpa_c79224799, rpa_c79782173, rpa_c80283000, rpa_c88260628, d1, n0, n1, n2, n3, n4, n5, n6, n7, n8, n9, n10, nn0, nn1]) L7
  obtain ⟨jp2, jv2⟩ := res_of f3
  obtain ⟨rp4, rv4⟩ := res_of f4
  replace jp2 : jpa_L2_p B = true := by simp only [jpa_L2_p, jpa_c20883189, jpa_c47053767, jpa_c47249889, jpa_c4755454, jpa_c50623285, jpa_c5883654, jpa_c60236699, jpa_c65951607, jpa_c73035710, jpa_c73656058, jpa_c80005064, jpa_c83617453, q1, hmg2, hh2, s0, s1, s2, s3, jv0]; exact jp2
  replace jv2 : jpa_L2_v B = (k3, e8, b8, T) := by simp only [jpa_L2_v, jpa_c20883189, jpa_c47053767, jpa_c47249889, jpa_c4755454, jpa_c50623285, jpa_c5883654, jpa_c60236699, jpa_c65951607, jpa_c73035710, jpa_c73656058, jpa_c80005064, jpa_c83617453, q1, hmg2, hh2, s0, s1, s2, s3, jv0]; exact jv2
  replace rp4 : rpa_L4_p B = true := by simp only [rpa_L4_p, rv2]; exact rp4
  replace rv4 : rpa_L4_v B = (k4, A8, E8, T) := by simp only [rpa_L4_v, rv2]; exact rv4
  obtain ⟨k5, e9, b9, J, k6, A9, E9, f5, f6, L9, hJ, hJl⟩ := joints_like hB hl (n := z2) (by omega) (by simp only [rpa_c12864592, rpa_c16769207, rpa_c18288685, rpa_c18467662, rpa_c19140520, rpa_c19884455, rpa_c20495894, rpa_c23370630, rpa_c26482445, rpa_c2860090, rpa_c29551071, rpa_c3374069, rpa_c33745110, rpa_c34324691, rpa_c41454612, rpa_c47952215, rpa_c48851167, rpa_c50518072, rpa_c51777491, rpa_c54414002, rpa_c54657020, rpa_c62440858, rpa_c64147426, rpa_c658694, rpa_c69058906, rpa_c75046149, rpa_c79224799, rpa_c79782173, rpa_c80283000, rpa_c88260628, d1, n0, n1, n2, n3, n4, n5, n6, n7, n8, n9, n10, nn0, nn1, nn2]) L8
  obtain ⟨jp4, jv4⟩ := res_of f5
  obtain ⟨rp8, rv8⟩ := res_of f6
  replace jp4 : jpa_L4_p B = true := by simp only [jpa_L4_p, jpa_c20883189, jpa_c47053767, jpa_c47249889, jpa_c4755454, jpa_c50623285, jpa_c5883654, jpa_c60236699, jpa_c65951607, jpa_c73035710, jpa_c73656058, jpa_c80005064, jpa_c83617453, q1, hmg2, hh2, s0, s1, s2, s3, jv2]; exact jp4
  replace jv4 : jpa_L4_v B = (k5, e9, b9, J) := by simp only [jpa_L4_v, jpa_c20883189, jpa_c47053767, jpa_c47249889, jpa_c4755454, jpa_c50623285, jpa_c5883654, jpa_c60236699, jpa_c65951607, jpa_c73035710, jpa_c73656058, jpa_c80005064, jpa_c83617453, q1, hmg2, hh2, s0, s1, s2, s3, jv2]; exact jv4
  replace rp8 : rpa_L8_p B = true := by simp only [rpa_L8_p, rv4]; exact rp8
  replace rv8 : rpa_L8_v B = (k6, A9, E9, J) := by simp only [rpa_L8_v, rv4]; exact rv8
  obtain ⟨k7, e, b, S, k8, At, E, f7, f8, L, hS, hSl⟩ := shapes_like hB hl (n := z3) (by omega) (by simp only [rpa_c12864592, rpa_c16769207, rpa_c18288685, rpa_c18467662, rpa_c19140520, rpa_c19884455, rpa_c20495894, rpa_c23370630, rpa_c26482445, rpa_c2860090, rpa_c29551071, rpa_c3374069, rpa_c33745110, rpa_c34324691, rpa_c41454612, rpa_c47952215, rpa_c48851167, rpa_c50518072, rpa_c51777491, rpa_c54414002, rpa_c54657020, rpa_c62440858, rpa_c64147426, rpa_c658694, rpa_c69058906, rpa_c75046149, rpa_c79224799, rpa_c79782173, rpa_c80283000, rpa_c88260628, d1, n0, n1, n2, n3, n4, n5, n6, n7, n8, n9, n10, nn0, nn1, nn2, nn3]) L9
  obtain ⟨jp6, jv6⟩ := res_of f7
  obtain ⟨rp10, rv10⟩ := res_of f8
  replace jp6 : jpa_L6_p B = true := by simp only [jpa_L6_p, jpa_c20883189, jpa_c47053767, jpa_c47249889, jpa_c4755454, jpa_c50623285, jpa_c5883654, jpa_c60236699, jpa_c65951607, jpa_c73035710, jpa_c73656058, jpa_c80005064, jpa_c83617453, q1, hmg2, hh2, s0, s1, s2, s3, jv4]; exact jp6
  replace jv6 : jpa_L6_v B = (k7, e, b, S) := by simp only [jpa_L6_v, jpa_c20883189, jpa_c47053767, jpa_c47249889, jpa_c4755454, jpa_c50623285, jpa_c5883654, jpa_c60236699, jpa_c65951607, jpa_c73035710, jpa_c73656058, jpa_c80005064, jpa_c83617453, q1, hmg2, hh2, s0, s1, s2, s3, jv4]; exact jv6
  replace rp10 : rpa_L10_p B = true := by simp only [rpa_L10_p, rv8]; exact rp10
  replace rv10 : rpa_L10_v B = (k8, At, E, S) := by simp only [rpa_L10_v, rv8]; exact rv10
  have hee := L.e
  subst hee
  by_cases he : e = 0
  · subst he
    obtain ⟨a, rfl, hal, hcb⟩ := L.ok rfl
    have hbl : b.length = B.length - a := by have := congrArg List.length hcb; simpa [col_length] using this
    have wa : IntKind.i64.wrap ((B.length : Int) - (a : Int)) = (B.length : Int) - (a : Int) := wrap_in (by omega) (by omega)
    by_cases hg : a < B.length
    · refine bad 10 ?_ ?_
      · have g1 : (b.length : Int) > 0 := by omega
        unfold jpa_res
        simp only [jpa_c20883189, jpa_c47053767, jpa_c47249889, jpa_c4755454, jpa_c50623285, jpa_c5883654, jpa_c60236699, jpa_c65951607, jpa_c73035710, jpa_c73656058, jpa_c80005064, jpa_c83617453, cond_not hl', q0, q1, hmg, hmg2, hh1, hh2, r0, s0, r1, s1, r2, s2, r3, s3, jp0, jv0, jp2, jv2, jp4, jv4, jp6, jv6, cond_dec g1, Option.isSome_some, cond_true, beq_self_eq_true]
      · have g1 : (B.length : Int) - (a : Int) > 0 := by omega
        unfold rpa_res
        simp only [rpa_c12864592, rpa_c16769207, rpa_c18288685, rpa_c18467662, rpa_c19140520, rpa_c19884455, rpa_c20495894, rpa_c23370630, rpa_c26482445, rpa_c2860090, rpa_c29551071, rpa_c3374069, rpa_c33745110, rpa_c34324691, rpa_c41454612, rpa_c47952215, rpa_c48851167, rpa_c50518072, rpa_c51777491, rpa_c54414002, rpa_c54657020, rpa_c62440858, rpa_c64147426, rpa_c658694, rpa_c69058906, rpa_c75046149, rpa_c79224799, rpa_c79782173, rpa_c80283000, rpa_c88260628, cond_not hl', d0, d1, m0, m1, m2, m3, m4, m5, m6, m7, m8, m9, m10, n0, n1, n2, n3, n4, n5, n6, n7, n8, n9, n10, w0, w1, w2, w3, w4, w10, w11, mm0, nn0, mm1, nn1, mm2, nn2, mm3, nn3, rp2, rv2, rp4, rv4, rp8, rv8, rp10, rv10, wa, cond_dec g1, Option.isSome_some, cond_true, bne_self_eq_false, cond_false]
    · have g1 : ¬ (b.length : Int) > 0 := by omega
      have g2 : ¬ (B.length : Int) - (a : Int) > 0 := by omega
      obtain ⟨c1, c2, c3⟩ := check_ok (x0 := x0) (x1 := x1) (x2 := x2) (x3 := x3) (x4 := x4) (x5 := x5) (x7 := x7) (x8 := x8) (x9 := x9) (x10 := x10) (x11 := x11) (x12 := x12) (P := P) (T := T) (J := J) (S := S) (by omega) (by omega) (by omega) (by omega)
      rw [hP, hT, hJ, hS] at c1 c2 c3
      obtain ⟨err, hsc⟩ : ∃ err, (sch_v x0 x1 x2 x3 x4 x5 x7 x8 x9 x10 x11 x12 P T J S).1 = err := ⟨_, rfl⟩
      have c4 : (rch_res x0 x1 x2 x3 x4 x5 x7 x8 x9 x10 x11 x12 P T J S).isSome = true := by rw [c2]; exact c1
      have c5 : (rch_v x0 x1 x2 x3 x4 x5 x7 x8 x9 x10 x11 x12 P T J S).1 = err := by rw [c3]; exact hsc
      have hKl : ∀ k, k < T.length → (rd T k 1).rows.length ≤ 1048576 := by
        intro k hk
        have := hTf k hk; omega
      by_cases hz : err = 0
      · subst hz
        obtain ⟨u, v⟩ := fin (x0, x1, x2, x3, x4, x5, x6, x7, x8, x9, x10, x11, x12, 0, P, T, J, S) (by
          unfold jpa_res
          simp only [jpa_c20883189, jpa_c47053767, jpa_c47249889, jpa_c4755454, jpa_c50623285, jpa_c5883654, jpa_c60236699, jpa_c65951607, jpa_c73035710, jpa_c73656058, jpa_c80005064, jpa_c83617453, cond_not hl', q0, q1, hmg, hmg2, hh1, hh2, r0, s0, r1, s1, r2, s2, r3, s3, jp0, jv0, jp2, jv2, jp4, jv4, jp6, jv6, cond_not g1, c1, hsc, Option.isSome_some, cond_true, bne_self_eq_false, cond_false]) (by
          unfold rpa_res
          simp only [rpa_c12864592, rpa_c16769207, rpa_c18288685, rpa_c18467662, rpa_c19140520, rpa_c19884455, rpa_c20495894, rpa_c23370630, rpa_c26482445, rpa_c2860090, rpa_c29551071, rpa_c3374069, rpa_c33745110, rpa_c34324691, rpa_c41454612, rpa_c47952215, rpa_c48851167, rpa_c50518072, rpa_c51777491, rpa_c54414002, rpa_c54657020, rpa_c62440858, rpa_c64147426, rpa_c658694, rpa_c69058906, rpa_c75046149, rpa_c79224799, rpa_c79782173, rpa_c80283000, rpa_c88260628, cond_not hl', d0, d1, m0, m1, m2, m3, m4, m5, m6, m7, m8, m9, m10, n0, n1, n2, n3, n4, n5, n6, n7, n8, n9, n10, w0, w1, w2, w3, w4, w10, w11, mm0, nn0, mm1, nn1, mm2, nn2, mm3, nn3, rp2, rv2, rp4, rv4, rp8, rv8, rp10, rv10, wa, cond_not g2, c4, c5, Option.isSome_some, cond_true, bne_self_eq_false, cond_false, beq_self_eq_true])
        exact ⟨x0, x1, x2, x3, x4, x5, x6, x7, x8, x9, x10, x11, x12, 0, P, T, J, S, u, v, ⟨hP, hT, hJ, hS⟩, ⟨by omega, by omega, by omega, by omega⟩, hKl⟩
      · have hzb : (err != 0) = true := by simpa using hz
        refine bad err ?_ ?_
        · unfold jpa_res
          simp only [jpa_c20883189, jpa_c47053767, jpa_c47249889, jpa_c4755454, jpa_c50623285, jpa_c5883654, jpa_c60236699, jpa_c65951607, jpa_c73035710, jpa_c73656058, jpa_c80005064, jpa_c83617453, cond_not hl', q0, q1, hmg, hmg2, hh1, hh2, r0, s0, r1, s1, r2, s2, r3, s3, jp0, jv0, jp2, jv2, jp4, jv4, jp6, jv6, cond_not g1, c1, hsc, hzb, Option.isSome_some, cond_true, bne_self_eq_false, cond_false]
        · unfold rpa_res
          simp only [rpa_c12864592, rpa_c16769207, rpa_c18288685, rpa_c18467662, rpa_c19140520, rpa_c19884455, rpa_c20495894, rpa_c23370630, rpa_c26482445, rpa_c2860090, rpa_c29551071, rpa_c3374069, rpa_c33745110, rpa_c34324691, rpa_c41454612, rpa_c47952215, rpa_c48851167, rpa_c50518072, rpa_c51777491, rpa_c54414002, rpa_c54657020, rpa_c62440858, rpa_c64147426, rpa_c658694, rpa_c69058906, rpa_c75046149, rpa_c79224799, rpa_c79782173, rpa_c80283000, rpa_c88260628, cond_not hl', d0, d1, m0, m1, m2, m3, m4, m5, m6, m7, m8, m9, m10, n0, n1, n2, n3, n4, n5, n6, n7, n8, n9, n10, w0, w1, w2, w3, w4, w10, w11, mm0, nn0, mm1, nn1, mm2, nn2, mm3, nn3, rp2, rv2, rp4, rv4, rp8, rv8, rp10, rv10, wa, cond_not g2, c4, c5, hzb, Option.isSome_some, cond_true, bne_self_eq_false, cond_false, beq_self_eq_true]
  · have hb := L.bad he
    subst hb
    have b1 : (e == 0) = false := by simpa using he
    have b2 : (e != 0) = true := by simpa using he
    have g1 : ¬ ((([] : List (List Ct)).length : Nat) : Int) > 0 := by simp
    refine bad e ?_ ?_
    · unfold jpa_res
      simp only [jpa_c20883189, jpa_c47053767, jpa_c47249889, jpa_c4755454, jpa_c50623285, jpa_c5883654, jpa_c60236699, jpa_c65951607, jpa_c73035710, jpa_c73656058, jpa_c80005064, jpa_c83617453, cond_not hl', q0, q1, hmg, hmg2, hh1, hh2, r0, s0, r1, s1, r2, s2, r3, s3, jp0, jv0, jp2, jv2, jp4, jv4, jp6, jv6, cond_not g1, b2, Option.isSome_some, cond_true, cond_false]
    · unfold rpa_res
      simp only [rpa_c12864592, rpa_c16769207, rpa_c18288685, rpa_c18467662, rpa_c19140520, rpa_c19884455, rpa_c20495894, rpa_c23370630, rpa_c26482445, rpa_c2860090, rpa_c29551071, rpa_c3374069, rpa_c33745110, rpa_c34324691, rpa_c41454612, rpa_c47952215, rpa_c48851167, rpa_c50518072, rpa_c51777491, rpa_c54414002, rpa_c54657020, rpa_c62440858, rpa_c64147426, rpa_c658694, rpa_c69058906, rpa_c75046149, rpa_c79224799, rpa_c79782173, rpa_c80283000, rpa_c88260628, cond_not hl', d0, d1, m0, m1, m2, m3, m4, m5, m6, m7, m8, m9, m10, n0, n1, n2, n3, n4, n5, n6, n7, n8, n9, n10, w0, w1, w2, w3, w4, w10, w11, mm0, nn0, mm1, nn1, mm2, nn2, mm3, nn3, rp2, rv2, rp4, rv4, rp8, rv8, rp10, rv10, b1, b2, Option.isSome_some, cond_true, cond_false]
end Go.Proofs.Ytcpbiijegbbafaa
