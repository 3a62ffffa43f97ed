/- Parse: what it answers, whatever the bytes are; what was laid is parsed. No condition. -/
import Derived.Test.YtcpbiijegbbafaaJobTotC
import Derived.Test.YtcpbiijegbbafaaSceneChk
set_option linter.unusedVariables false
set_option linter.unusedSimpArgs false
namespace Go.Proofs.Ytcpbiijegbbafaa
open Go.RowKit

/-- A scene that may be laid. -/
structure VSc (x0 x1 x2 x3 x4 x5 x6 x7 x8 x9 x10 x11 x12 : Int) (P T J S : List (List Ct)) : Prop where
  hd : VHd x0 x1 x2 x3 x4 x5 x6 x7 x8 x9 x10 x11 x12
  p : ∀ r ∈ P, VP r
  t : ∀ r ∈ T, VT r
  j : ∀ r ∈ J, VJ r
  s : ∀ r ∈ S, VS r
  pl : P.length ≤ 32
  tl : T.length ≤ 32
  jl : J.length ≤ 32
  sl : S.length ≤ 128
theorem VSc.chk {x0 x1 x2 x3 x4 x5 x6 x7 x8 x9 x10 x11 x12 : Int} {P T J S : List (List Ct)} (h : VSc x0 x1 x2 x3 x4 x5 x6 x7 x8 x9 x10 x11 x12 P T J S) : (sch_res x0 x1 x2 x3 x4 x5 x7 x8 x9 x10 x11 x12 P T J S).isSome = true := by
  have hp := h.pl; have ht := h.tl; have hj := h.jl; have hs := h.sl
  obtain ⟨c1, c2, c3⟩ := check_ok (x0 := x0) (x1 := x1) (x2 := x2) (x3 := x3) (x4 := x4) (x5 := x5) (x7 := x7) (x8 := x8) (x9 := x9) (x10 := x10) (x11 := x11) (x12 := x12) (P := P) (T := T) (J := J) (S := S) (by omega) (by omega) (by omega) (by omega)
  rw [cP_of h.p, cT_of h.t, cJ_of h.j, cS_of h.s] at c1
  exact c1
theorem VSc.canon {x0 x1 x2 x3 x4 x5 x6 x7 x8 x9 x10 x11 x12 : Int} {P T J S : List (List Ct)} (h : VSc x0 x1 x2 x3 x4 x5 x6 x7 x8 x9 x10 x11 x12 P T J S) : cP P = P ∧ cT T = T ∧ cJ J = J ∧ cS S = S := ⟨cP_of h.p, cT_of h.t, cJ_of h.j, cS_of h.s⟩
theorem parse_t {B : List (List Ct)} (hB : Byt (col B)) :
    ∃ x0 x1 x2 x3 x4 x5 x6 x7 x8 x9 x10 x11 x12 err P T J S, (jpa_res B = some (x0, x1, x2, x3, x4, x5, x6, x7, x8, x9, x10, x11, x12, err, P, T, J, S) ∧ jpa_v B = (x0, x1, x2, x3, x4, x5, x6, x7, x8, x9, x10, x11, x12, err, P, T, J, S)) ∧ ((err ≠ 0 ∧ x0 = 0 ∧ T = [] ∧ S = []) ∨ (err = 0 ∧ VSc x0 x1 x2 x3 x4 x5 x6 x7 x8 x9 x10 x11 x12 P T J S ∧ (sch_v x0 x1 x2 x3 x4 x5 x7 x8 x9 x10 x11 x12 P T J S).1 = 0 ∧ col B = bScene x0 x1 x2 x3 x4 x5 x6 x7 x8 x9 x10 x11 x12 P T J S)) := by
  have fin : ∀ x, jpa_res B = some x → (jpa_res B = some x ∧ jpa_v B = x) := fun x h1 => ⟨h1, by unfold jpa_v; rw [h1]; rfl⟩
  have bad : ∀ e : Int, e ≠ 0 → jpa_res B = some (0, 0, 0, 0, 0, 0, 0, 0, 0, 0, 0, 0, 0, e, [], [], [], []) → ∃ x0 x1 x2 x3 x4 x5 x6 x7 x8 x9 x10 x11 x12 err P T J S, (jpa_res B = some (x0, x1, x2, x3, x4, x5, x6, x7, x8, x9, x10, x11, x12, err, P, T, J, S) ∧ jpa_v B = (x0, x1, x2, x3, x4, x5, x6, x7, x8, x9, x10, x11, x12, err, P, T, J, S)) ∧ ((err ≠ 0 ∧ x0 = 0 ∧ T = [] ∧ S = []) ∨ (err = 0 ∧ VSc x0 x1 x2 x3 x4 x5 x6 x7 x8 x9 x10 x11 x12 P T J S ∧ (sch_v x0 x1 x2 x3 x4 x5 x7 x8 x9 x10 x11 x12 P T J S).1 = 0 ∧ col B = bScene x0 x1 x2 x3 x4 x5 x6 x7 x8 x9 x10 x11 x12 P T J S)) := fun e he h1 =>
    ⟨0, 0, 0, 0, 0, 0, 0, 0, 0, 0, 0, 0, 0, e, [], [], [], [], fin _ h1, .inl ⟨he, rfl, rfl, rfl⟩⟩
  by_cases hl' : (B.length : Int) > 65536
  · exact bad 8 (by omega) (by unfold jpa_res; rw [cond_dec hl'])
  have q0 : rrd_res B = some ([] ++ B) := by unfold rrd_res; exact ob_step (by omega) rfl
  have q1 : rrd_v B = [] ++ B := by unfold rrd_v; rw [q0]; rfl
  have hB' : Byt (col ([] ++ B)) := hB
  obtain ⟨e1, b1, ⟨hmg, hmg2⟩, B1, l1, i1⟩ := mg_t 0 hB'
  obtain ⟨x0, x1, x2, x3, x4, x5, x6, x7, x8, x9, x10, x11, x12, e2, b2, ⟨hh1, hh2⟩, B2, l2, i2⟩ := hd_t e1 B1
  obtain ⟨y0, e3, b3, ⟨r0, s0⟩, B3, l3, y00, i3⟩ := mn_t e2 B2 32 22 (by omega) (by omega)
  obtain ⟨y1, e4, b4, ⟨r1, s1⟩, B4, l4, y10, i4⟩ := mn_t e3 B3 32 23 (by omega) (by omega)
  obtain ⟨y2, e5, b5, ⟨r2, s2⟩, B5, l5, y20, i5⟩ := mn_t e4 B4 32 24 (by omega) (by omega)
  obtain ⟨y3, e6, b6, ⟨r3, s3⟩, B6, l6, y30, i6⟩ := mn_t e5 B5 128 25 (by omega) (by omega)
  obtain ⟨z0, rfl⟩ := Int.eq_ofNat_of_zero_le y00.1
  obtain ⟨z1, rfl⟩ := Int.eq_ofNat_of_zero_le y10.1
  obtain ⟨z2, rfl⟩ := Int.eq_ofNat_of_zero_le y20.1
  obtain ⟨z3, rfl⟩ := Int.eq_ofNat_of_zero_le y30.1
  obtain ⟨k7, e7, b7, P, g7, B7, l7, n7, i7⟩ := ps_t z0 e6 b6 [] 300 (by omega) (by omega) (by simp only [List.length_nil]; omega) B6
  obtain ⟨k8, e8, b8, T, g8, B8, l8, n8, i8⟩ := ts_t z1 e7 b7 [] 300 (by omega) (by omega) (by simp only [List.length_nil]; omega) B7
  obtain ⟨k9, e9, b9, J, g9, B9, l9, n9, i9⟩ := js_t z2 e8 b8 [] 300 (by omega) (by omega) (by simp only [List.length_nil]; omega) B8
  obtain ⟨k10, e, b, S, g10, B10, l10, n10, i10⟩ := ss_t z3 e9 b9 [] 300 (by omega) (by omega) (by simp only [List.length_nil]; omega) B9
  rw [List.nil_append] at g7 g8 g9 g10
  have jp0 : jpa_L0_p B = true := by simp only [jpa_L0_p, jpa_c20883189, jpa_c47053767, jpa_c47249889, jpa_c4755454, jpa_c50623285, jpa_c5883654, jpa_c60236699, jpa_c65951607, jpa_c73035710, jpa_c73656058, jpa_c80005064, jpa_c83617453, q1, hmg2, hh2, s0, s1, s2, s3]; exact congrArg Option.isSome g7
  have jv0 : jpa_L0_v B = (k7, e7, b7, P) := by simp only [jpa_L0_v, loopRes, jpa_c20883189, jpa_c47053767, jpa_c47249889, jpa_c4755454, jpa_c50623285, jpa_c5883654, jpa_c60236699, jpa_c65951607, jpa_c73035710, jpa_c73656058, jpa_c80005064, jpa_c83617453, q1, hmg2, hh2, s0, s1, s2, s3]; exact congrArg (fun o : Option (Int × Int × List (List Ct) × List (List Ct)) => o.getD default) g7
  have jp2 : jpa_L2_p B = true := by simp only [jpa_L2_p, jpa_c20883189, jpa_c47053767, jpa_c47249889, jpa_c4755454, jpa_c50623285, jpa_c5883654, jpa_c60236699, jpa_c65951607, jpa_c73035710, jpa_c73656058, jpa_c80005064, jpa_c83617453, q1, hmg2, hh2, s0, s1, s2, s3, jv0]; exact congrArg Option.isSome g8
  have jv2 : jpa_L2_v B = (k8, e8, b8, T) := by simp only [jpa_L2_v, loopRes, jpa_c20883189, jpa_c47053767, jpa_c47249889, jpa_c4755454, jpa_c50623285, jpa_c5883654, jpa_c60236699, jpa_c65951607, jpa_c73035710, jpa_c73656058, jpa_c80005064, jpa_c83617453, q1, hmg2, hh2, s0, s1, s2, s3, jv0]; exact congrArg (fun o : Option (Int × Int × List (List Ct) × List (List Ct)) => o.getD default) g8
  have jp4 : jpa_L4_p B = true := by simp only [jpa_L4_p, jpa_c20883189, jpa_c47053767, jpa_c47249889, jpa_c4755454, jpa_c50623285, jpa_c5883654, jpa_c60236699, jpa_c65951607, jpa_c73035710, jpa_c73656058, jpa_c80005064, jpa_c83617453, q1, hmg2, hh2, s0, s1, s2, s3, jv2]; exact congrArg Option.isSome g9
  have jv4 : jpa_L4_v B = (k9, e9, b9, J) := by simp only [jpa_L4_v, loopRes, jpa_c20883189, jpa_c47053767, jpa_c47249889, jpa_c4755454, jpa_c50623285, jpa_c5883654, jpa_c60236699, jpa_c65951607, jpa_c73035710, jpa_c73656058, jpa_c80005064, jpa_c83617453, q1, hmg2, hh2, s0, s1, s2, s3, jv2]; exact congrArg (fun o : Option (Int × Int × List (List Ct) × List (List Ct)) => o.getD default) g9
  have jp6 : jpa_L6_p B = true := by simp only [jpa_L6_p, jpa_c20883189, jpa_c47053767, jpa_c47249889, jpa_c4755454, jpa_c50623285, jpa_c5883654, jpa_c60236699, jpa_c65951607, jpa_c73035710, jpa_c73656058, jpa_c80005064, jpa_c83617453, q1, hmg2, hh2, s0, s1, s2, s3, jv4]; exact congrArg Option.isSome g10
  have jv6 : jpa_L6_v B = (k10, e, b, S) := by simp only [jpa_L6_v, loopRes, jpa_c20883189, jpa_c47053767, jpa_c47249889, jpa_c4755454, jpa_c50623285, jpa_c5883654, jpa_c60236699, jpa_c65951607, jpa_c73035710, jpa_c73656058, jpa_c80005064, jpa_c83617453, q1, hmg2, hh2, s0, s1, s2, s3, jv4]; exact congrArg (fun o : Option (Int × Int × List (List Ct) × List (List Ct)) => o.getD default) g10
  by_cases he : e = 0
  · subst he
    by_cases hg : (b.length : Int) > 0
    · refine bad 10 (by omega) ?_
      unfold jpa_res
      simp only [jpa_c20883189, jpa_c47053767, jpa_c47249889, jpa_c4755454, jpa_c50623285, jpa_c5883654, jpa_c60236699, jpa_c65951607, jpa_c73035710, jpa_c73656058, jpa_c80005064, jpa_c83617453, cond_not hl', q0, q1, hmg, hmg2, hh1, hh2, r0, s0, r1, s1, r2, s2, r3, s3, jp0, jv0, jp2, jv2, jp4, jv4, jp6, jv6, cond_dec hg, Option.isSome_some, cond_true, beq_self_eq_true]
    · have hb : b = [] := by
        cases b with
        | nil => rfl
        | cons x y => simp only [List.length_cons] at hg; omega
      subst hb
      obtain ⟨h9, m10, v10, c10⟩ := i10 rfl
      obtain ⟨h8, m9, v9, c9⟩ := i9 h9
      obtain ⟨h7, m8, v8, c8⟩ := i8 h8
      obtain ⟨h6, m7, v7, c7⟩ := i7 h7
      obtain ⟨h5, w3, c6⟩ := i6 h6
      obtain ⟨h4, w2, c5⟩ := i5 h5
      obtain ⟨h3, w1, c4⟩ := i4 h4
      obtain ⟨h2, w0, c3⟩ := i3 h3
      obtain ⟨h1, vh, c2⟩ := i2 h2
      obtain ⟨_, c1⟩ := i1 h1
      have hS : VSc x0 x1 x2 x3 x4 x5 x6 x7 x8 x9 x10 x11 x12 P T J S := ⟨vh, v7, v8, v9, v10, by omega, by omega, by omega, by omega⟩
      have hcol : col B = bScene x0 x1 x2 x3 x4 x5 x6 x7 x8 x9 x10 x11 x12 P T J S := by
        have c0 : col B = col ([] ++ B) := rfl
        rw [c0, c1, c2, c3, c4, c5, c6, c7, c8, c9, c10, ← m7, ← m8, ← m9, ← m10]
        simp only [bScene, bN, catP, catT, catJ, catS, List.append_assoc, col_nil, List.append_nil]
      have hch := hS.chk
      by_cases hz : (sch_v x0 x1 x2 x3 x4 x5 x7 x8 x9 x10 x11 x12 P T J S).1 = 0
      · exact ⟨x0, x1, x2, x3, x4, x5, x6, x7, x8, x9, x10, x11, x12, 0, P, T, J, S, fin _ (by
          unfold jpa_res
          simp only [jpa_c20883189, jpa_c47053767, jpa_c47249889, jpa_c4755454, jpa_c50623285, jpa_c5883654, jpa_c60236699, jpa_c65951607, jpa_c73035710, jpa_c73656058, jpa_c80005064, jpa_c83617453, cond_not hl', q0, q1, hmg, hmg2, hh1, hh2, r0, s0, r1, s1, r2, s2, r3, s3, jp0, jv0, jp2, jv2, jp4, jv4, jp6, jv6, cond_not hg, hch, hz, Option.isSome_some, cond_true, bne_self_eq_false, cond_false]), .inr ⟨rfl, hS, hz, hcol⟩⟩
      · have hzb : ((sch_v x0 x1 x2 x3 x4 x5 x7 x8 x9 x10 x11 x12 P T J S).1 != 0) = true := by simpa using hz
        refine bad _ hz ?_
        unfold jpa_res
        simp only [jpa_c20883189, jpa_c47053767, jpa_c47249889, jpa_c4755454, jpa_c50623285, jpa_c5883654, jpa_c60236699, jpa_c65951607, jpa_c73035710, jpa_c73656058, jpa_c80005064, jpa_c83617453, cond_not hl', q0, q1, hmg, hmg2, hh1, hh2, r0, s0, r1, s1, r2, s2, r3, s3, jp0, jv0, jp2, jv2, jp4, jv4, jp6, jv6, cond_not hg, hch, hzb, Option.isSome_some, cond_true, bne_self_eq_false, cond_false]
  · have b1' : (e == 0) = false := by simpa using he
    have b2' : (e != 0) = true := by simpa using he
    refine bad e he ?_
    by_cases hg : (b.length : Int) > 0
    · unfold jpa_res
      simp only [jpa_c20883189, jpa_c47053767, jpa_c47249889, jpa_c4755454, jpa_c50623285, jpa_c5883654, jpa_c60236699, jpa_c65951607, jpa_c73035710, jpa_c73656058, jpa_c80005064, jpa_c83617453, cond_not hl', q0, q1, hmg, hmg2, hh1, hh2, r0, s0, r1, s1, r2, s2, r3, s3, jp0, jv0, jp2, jv2, jp4, jv4, jp6, jv6, cond_dec hg, b1', b2', Option.isSome_some, cond_true, cond_false]
    · unfold jpa_res
      simp only [jpa_c20883189, jpa_c47053767, jpa_c47249889, jpa_c4755454, jpa_c50623285, jpa_c5883654, jpa_c60236699, jpa_c65951607, jpa_c73035710, jpa_c73656058, jpa_c80005064, jpa_c83617453, cond_not hl', q0, q1, hmg, hmg2, hh1, hh2, r0, s0, r1, s1, r2, s2, r3, s3, jp0, jv0, jp2, jv2, jp4, jv4, jp6, jv6, cond_not hg, b1', b2', Option.isSome_some, cond_true, cond_false]
theorem parse_f {B : List (List Ct)} {x0 x1 x2 x3 x4 x5 x6 x7 x8 x9 x10 x11 x12 : Int} {P T J S : List (List Ct)} (hB : Byt (col B)) (hl : B.length ≤ 65536) (hS : VSc x0 x1 x2 x3 x4 x5 x6 x7 x8 x9 x10 x11 x12 P T J S) (hz : (sch_v x0 x1 x2 x3 x4 x5 x7 x8 x9 x10 x11 x12 P T J S).1 = 0) (hc : col B = bScene x0 x1 x2 x3 x4 x5 x6 x7 x8 x9 x10 x11 x12 P T J S) :
    jpa_res B = some (x0, x1, x2, x3, x4, x5, x6, x7, x8, x9, x10, x11, x12, 0, P, T, J, S) ∧ jpa_v B = (x0, x1, x2, x3, x4, x5, x6, x7, x8, x9, x10, x11, x12, 0, P, T, J, S) := by
  have hl' : ¬ (B.length : Int) > 65536 := by omega
  have q0 : rrd_res B = some ([] ++ B) := by unfold rrd_res; exact ob_step (by omega) rfl
  have q1 : rrd_v B = [] ++ B := by unfold rrd_v; rw [q0]; rfl
  have hB' : Byt (col ([] ++ B)) := hB
  have hpl := hS.pl; have htl := hS.tl; have hjl := hS.jl; have hsl := hS.sl
  have c0 : col ([] ++ B) = bScene x0 x1 x2 x3 x4 x5 x6 x7 x8 x9 x10 x11 x12 P T J S := hc
  simp only [bScene, bN, catP, catT, catJ, catS, List.append_assoc] at c0
  obtain ⟨b1, ⟨hmg, hmg2⟩, B1, c1⟩ := mg_f hB' c0
  obtain ⟨b2, ⟨hh1, hh2⟩, B2, c2⟩ := hd_f B1 hS.hd c1
  obtain ⟨b3, ⟨r0, s0⟩, B3, c3⟩ := mn_f B2 32 22 (by omega) (by omega) c2
  obtain ⟨b4, ⟨r1, s1⟩, B4, c4⟩ := mn_f B3 32 23 (by omega) (by omega) c3
  obtain ⟨b5, ⟨r2, s2⟩, B5, c5⟩ := mn_f B4 32 24 (by omega) (by omega) c4
  obtain ⟨b6, ⟨r3, s3⟩, B6, c6⟩ := mn_f B5 128 25 (by omega) (by omega) c5
  obtain ⟨b7, g7, B7, c7⟩ := ps_f P b6 [] _ 300 (by omega) (by omega) (by simp only [List.length_nil]; omega) B6 hS.p c6
  obtain ⟨b8, g8, B8, c8⟩ := ts_f T b7 [] _ 300 (by omega) (by omega) (by simp only [List.length_nil]; omega) B7 hS.t c7
  obtain ⟨b9, g9, B9, c9⟩ := js_f J b8 [] _ 300 (by omega) (by omega) (by simp only [List.length_nil]; omega) B8 hS.j c8
  obtain ⟨b, g10, B10, c10⟩ := ss_f S b9 [] [] 300 (by omega) (by omega) (by simp only [List.length_nil]; omega) B9 hS.s (by rw [List.append_nil]; exact c9)
  rw [List.nil_append] at g7 g8 g9 g10
  have jp0 : jpa_L0_p B = true := by simp only [jpa_L0_p, jpa_c20883189, jpa_c47053767, jpa_c47249889, jpa_c4755454, jpa_c50623285, jpa_c5883654, jpa_c60236699, jpa_c65951607, jpa_c73035710, jpa_c73656058, jpa_c80005064, jpa_c83617453, q1, hmg2, hh2, s0, s1, s2, s3]; exact congrArg Option.isSome g7
  have jv0 : jpa_L0_v B = (0, 0, b7, P) := by simp only [jpa_L0_v, loopRes, jpa_c20883189, jpa_c47053767, jpa_c47249889, jpa_c4755454, jpa_c50623285, jpa_c5883654, jpa_c60236699, jpa_c65951607, jpa_c73035710, jpa_c73656058, jpa_c80005064, jpa_c83617453, q1, hmg2, hh2, s0, s1, s2, s3]; exact congrArg (fun o : Option (Int × Int × List (List Ct) × List (List Ct)) => o.getD default) g7
  have jp2 : jpa_L2_p B = true := by simp only [jpa_L2_p, jpa_c20883189, jpa_c47053767, jpa_c47249889, jpa_c4755454, jpa_c50623285, jpa_c5883654, jpa_c60236699, jpa_c65951607, jpa_c73035710, jpa_c73656058, jpa_c80005064, jpa_c83617453, q1, hmg2, hh2, s0, s1, s2, s3, jv0]; exact congrArg Option.isSome g8
  have jv2 : jpa_L2_v B = (0, 0, b8, T) := by simp only [jpa_L2_v, loopRes, jpa_c20883189, jpa_c47053767, jpa_c47249889, jpa_c4755454, jpa_c50623285, jpa_c5883654, jpa_c60236699, jpa_c65951607, jpa_c73035710, jpa_c73656058, jpa_c80005064, jpa_c83617453, q1, hmg2, hh2, s0, s1, s2, s3, jv0]; exact congrArg (fun o : Option (Int × Int × List (List Ct) × List (List Ct)) => o.getD default) g8
  have jp4 : jpa_L4_p B = true := by simp only [jpa_L4_p, jpa_c20883189, jpa_c47053767, jpa_c47249889, jpa_c4755454, jpa_c50623285, jpa_c5883654, jpa_c60236699, jpa_c65951607, jpa_c73035710, jpa_c73656058, jpa_c80005064, jpa_c83617453, q1, hmg2, hh2, s0, s1, s2, s3, jv2]; exact congrArg Option.isSome g9
  have jv4 : jpa_L4_v B = (0, 0, b9, J) := by simp only [jpa_L4_v, loopRes, jpa_c20883189, jpa_c47053767, jpa_c47249889, jpa_c4755454, jpa_c50623285, jpa_c5883654, jpa_c60236699, jpa_c65951607, jpa_c73035710, jpa_c73656058, jpa_c80005064, jpa_c83617453, q1, hmg2, hh2, s0, s1, s2, s3, jv2]; exact congrArg (fun o : Option (Int × Int × List (List Ct) × List (List Ct)) => o.getD default) g9
  have jp6 : jpa_L6_p B = true := by simp only [jpa_L6_p, jpa_c20883189, jpa_c47053767, jpa_c47249889, jpa_c4755454, jpa_c50623285, jpa_c5883654, jpa_c60236699, jpa_c65951607, jpa_c73035710, jpa_c73656058, jpa_c80005064, jpa_c83617453, q1, hmg2, hh2, s0, s1, s2, s3, jv4]; exact congrArg Option.isSome g10
  have jv6 : jpa_L6_v B = (0, 0, b, S) := by simp only [jpa_L6_v, loopRes, jpa_c20883189, jpa_c47053767, jpa_c47249889, jpa_c4755454, jpa_c50623285, jpa_c5883654, jpa_c60236699, jpa_c65951607, jpa_c73035710, jpa_c73656058, jpa_c80005064, jpa_c83617453, q1, hmg2, hh2, s0, s1, s2, s3, jv4]; exact congrArg (fun o : Option (Int × Int × List (List Ct) × List (List Ct)) => o.getD default) g10
  have hbl : b.length = 0 := by have := congrArg List.length c10; rw [col_length] at this; exact this
  have hg : ¬ (b.length : Int) > 0 := by omega
  have hch := hS.chk
  have h : jpa_res B = some (x0, x1, x2, x3, x4, x5, x6, x7, x8, x9, x10, x11, x12, 0, P, T, J, S) := by
    unfold jpa_res
    simp only [jpa_c20883189, jpa_c47053767, jpa_c47249889, jpa_c4755454, jpa_c50623285, jpa_c5883654, jpa_c60236699, jpa_c65951607, jpa_c73035710, jpa_c73656058, jpa_c80005064, jpa_c83617453, cond_not hl', q0, q1, hmg, hmg2, hh1, hh2, r0, s0, r1, s1, r2, s2, r3, s3, jp0, jv0, jp2, jv2, jp4, jv4, jp6, jv6, cond_not hg, hch, hz, Option.isSome_some, cond_true, bne_self_eq_false, cond_false]
  exact ⟨h, by unfold jpa_v; rw [h]; rfl⟩
end Go.Proofs.Ytcpbiijegbbafaa
