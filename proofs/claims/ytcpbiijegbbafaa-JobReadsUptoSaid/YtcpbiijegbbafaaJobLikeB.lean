/- Both Parses, side by side: shapes, tracks, all. No condition. -/
import Derived.Test.YtcpbiijegbbafaaJobLike
set_option linter.unusedVariables false
set_option linter.unusedSimpArgs false
namespace Go.Proofs.Ytcpbiijegbbafaa
open Go.RowKit

theorem shape_like {B : List (List Ct)} (hB : Byt (col B)) (hl : B.length ≤ 1048576) {n d : Nat} (hn : n ≤ 255) (hd : d + 1 ≤ n) (hc : (rpa_c47952215 B).fst = (n : Int)) {b rows : List (List Ct)} {At : Int} (hr : rows.length ≤ 255) (L : Like B b 0 At 0) :
    ∃ a0 a1 a2 a3 a4 a5 a6 a7 a8 a9 a10 a11 a12 e' b' At' E', (jsh_res b 0 = some (e', a0, a1, a2, a3, a4, a5, a6, a7, a8, a9, a10, a11, a12, b') ∧ jsh_v b 0 = (e', a0, a1, a2, a3, a4, a5, a6, a7, a8, a9, a10, a11, a12, b')) ∧ Like B b' e' At' E' ∧ rpa_L10_step B (((n - (d + 1) : Nat) : Int), At, 0, rows) = some (.inl (((n - d : Nat) : Int), At', E', rows ++ [[Ct.i a0, Ct.i a1, Ct.i a2, Ct.i a3, Ct.i a4, Ct.i a5, Ct.i a6, Ct.i a7, Ct.i a8, Ct.i a9, Ct.i a10, Ct.i a11, Ct.i a12]])) := by
  have q2 : ((n - (d + 1) : Nat) : Int) < (n : Int) := by omega
  have w2' : IntKind.i64.wrap (((n - (d + 1) : Nat) : Int) + 1) = ((n - d : Nat) : Int) := by rw [wrap_in (by omega) (by omega)]; omega
  obtain ⟨a0, e0, b0, A0, E0, ⟨r0, s0⟩, ⟨m0, n0⟩, L0⟩ := small_like hB hl L
  obtain ⟨a1, e1, b1, A1, E1, ⟨r1, s1⟩, ⟨m1, n1⟩, ⟨v10, v11, w1⟩, L1⟩ := ha_like hB hl L0
  obtain ⟨a2, e2, b2, A2, E2, ⟨r2, s2⟩, ⟨m2, n2⟩, ⟨v20, v21, w2⟩, L2⟩ := by_like hB hl L1
  obtain ⟨a3, a4, a5, e3, b3, A3, E3, ⟨r3, s3⟩, ⟨t3, u3⟩, ⟨m3, n3⟩, L3⟩ := vec_like hB hl L2
  by_cases k0 : a2 = 0
  · subst k0
    obtain ⟨a12, e4, b4, A4, E4, ⟨r4, s4⟩, ⟨m4, n4⟩, L4⟩ := fix_like hB hl L3
    have h : jsh_res b 0 = some (e4, a0, a1, 0, a3, a4, a5, 0, 0, 0, 0, 0, 0, a12, b4) := by
      unfold jsh_res
      simp only [jsh_c1280629, jsh_c13908887, jsh_c36746435, jsh_c44858984, jsh_c50075936, jsh_c95629817, r0, s0, r1, s1, r2, s2, r3, s3, t3, u3, r4, s4, Option.isSome_some, cond_true, cond_false, beq_self_eq_true]
    refine ⟨a0, a1, 0, a3, a4, a5, 0, 0, 0, 0, 0, 0, a12, e4, b4, A4, E4, ⟨h, by unfold jsh_v; rw [h]; rfl⟩, L4, ?_⟩
    simp only [rpa_L10_step, hc, rpa_c12864592, rpa_c16769207, rpa_c18288685, rpa_c18467662, rpa_c19140520, rpa_c19884455, rpa_c20495894, rpa_c23370630, rpa_c26482445, rpa_c2860090, rpa_c29551071, rpa_c3374069, rpa_c33745110, rpa_c34324691, rpa_c41454612, rpa_c48851167, rpa_c50518072, rpa_c51777491, rpa_c54414002, rpa_c54657020, rpa_c62440858, rpa_c64147426, rpa_c658694, rpa_c69058906, rpa_c75046149, rpa_c79224799, rpa_c79782173, rpa_c80283000, rpa_c88260628, cond_dec q2, m0, n0, m1, n1, w1, m2, n2, w2, m3, n3, m4, n4, Option.isSome_some, cond_true, cond_false, w2', beq_self_eq_true, beq_self_eq_true]
    exact ob_step (by simp only [List.length_cons, List.length_nil]; omega) rfl
  · have kb0 : (a2 == 0) = false := by simpa using k0
    by_cases k1 : a2 = 1
    · subst k1
      obtain ⟨a6, a7, a8, e4, b4, A4, E4, ⟨r4, s4⟩, ⟨t4, u4⟩, ⟨m4, n4⟩, L4⟩ := vec_like hB hl L3
      obtain ⟨a9, a10, a11, e5, b5, A5, E5, ⟨r5, s5⟩, ⟨t5, u5⟩, ⟨m5, n5⟩, L5⟩ := vec_like hB hl L4
      have h : jsh_res b 0 = some (e5, a0, a1, 1, a3, a4, a5, a6, a7, a8, a9, a10, a11, 0, b5) := by
        unfold jsh_res
        simp only [jsh_c1280629, jsh_c13908887, jsh_c36746435, jsh_c44858984, jsh_c50075936, jsh_c95629817, r0, s0, r1, s1, r2, s2, r3, s3, t3, u3, r4, s4, t4, u4, r5, s5, t5, u5, Option.isSome_some, cond_true, cond_false, show ((1 : Int) == 0) = false from rfl, beq_self_eq_true]
      refine ⟨a0, a1, 1, a3, a4, a5, a6, a7, a8, a9, a10, a11, 0, e5, b5, A5, E5, ⟨h, by unfold jsh_v; rw [h]; rfl⟩, L5, ?_⟩
      simp only [rpa_L10_step, hc, rpa_c12864592, rpa_c16769207, rpa_c18288685, rpa_c18467662, rpa_c19140520, rpa_c19884455, rpa_c20495894, rpa_c23370630, rpa_c26482445, rpa_c2860090, rpa_c29551071, rpa_c3374069, rpa_c33745110, rpa_c34324691, rpa_c41454612, rpa_c48851167, rpa_c50518072, rpa_c51777491, rpa_c54414002, rpa_c54657020, rpa_c62440858, rpa_c64147426, rpa_c658694, rpa_c69058906, rpa_c75046149, rpa_c79224799, rpa_c79782173, rpa_c80283000, rpa_c88260628, cond_dec q2, m0, n0, m1, n1, w1, m2, n2, w2, m3, n3, m4, n4, m5, n5, Option.isSome_some, cond_true, cond_false, w2', beq_self_eq_true, show ((1 : Int) == 0) = false from rfl]
      exact ob_step (by simp only [List.length_cons, List.length_nil]; omega) rfl
    · have kb1 : (a2 == 1) = false := by simpa using k1
      by_cases he : e3 = 0
      · have hE : E3 = 0 := by rw [← L3.e]; exact he
        subst he; subst hE
        have h : jsh_res b 0 = some (25, a0, a1, a2, a3, a4, a5, 0, 0, 0, 0, 0, 0, 0, []) := by
          unfold jsh_res
          simp only [jsh_c1280629, jsh_c13908887, jsh_c36746435, jsh_c44858984, jsh_c50075936, jsh_c95629817, r0, s0, r1, s1, r2, s2, r3, s3, t3, u3, Option.isSome_some, cond_true, cond_false, kb0, kb1, beq_self_eq_true]
        refine ⟨a0, a1, a2, a3, a4, a5, 0, 0, 0, 0, 0, 0, 0, 25, [], A3, 25, ⟨h, by unfold jsh_v; rw [h]; rfl⟩, Like.fail (show (25 : Int) ≠ 0 by omega), ?_⟩
        simp only [rpa_L10_step, hc, rpa_c12864592, rpa_c16769207, rpa_c18288685, rpa_c18467662, rpa_c19140520, rpa_c19884455, rpa_c20495894, rpa_c23370630, rpa_c26482445, rpa_c2860090, rpa_c29551071, rpa_c3374069, rpa_c33745110, rpa_c34324691, rpa_c41454612, rpa_c48851167, rpa_c50518072, rpa_c51777491, rpa_c54414002, rpa_c54657020, rpa_c62440858, rpa_c64147426, rpa_c658694, rpa_c69058906, rpa_c75046149, rpa_c79224799, rpa_c79782173, rpa_c80283000, rpa_c88260628, cond_dec q2, m0, n0, m1, n1, w1, m2, n2, w2, m3, n3, Option.isSome_some, cond_true, cond_false, w2', beq_self_eq_true, kb0, kb1]
        exact ob_step (by simp only [List.length_cons, List.length_nil]; omega) rfl
      · have hE : E3 ≠ 0 := by rw [← L3.e]; exact he
        have b1 : (e3 == 0) = false := by simpa using he
        have b2 : (E3 == 0) = false := by simpa using hE
        have h : jsh_res b 0 = some (e3, a0, a1, a2, a3, a4, a5, 0, 0, 0, 0, 0, 0, 0, b3) := by
          unfold jsh_res
          simp only [jsh_c1280629, jsh_c13908887, jsh_c36746435, jsh_c44858984, jsh_c50075936, jsh_c95629817, r0, s0, r1, s1, r2, s2, r3, s3, t3, u3, Option.isSome_some, cond_true, cond_false, kb0, kb1, b1]
        refine ⟨a0, a1, a2, a3, a4, a5, 0, 0, 0, 0, 0, 0, 0, e3, b3, A3, E3, ⟨h, by unfold jsh_v; rw [h]; rfl⟩, L3, ?_⟩
        simp only [rpa_L10_step, hc, rpa_c12864592, rpa_c16769207, rpa_c18288685, rpa_c18467662, rpa_c19140520, rpa_c19884455, rpa_c20495894, rpa_c23370630, rpa_c26482445, rpa_c2860090, rpa_c29551071, rpa_c3374069, rpa_c33745110, rpa_c34324691, rpa_c41454612, rpa_c48851167, rpa_c50518072, rpa_c51777491, rpa_c54414002, rpa_c54657020, rpa_c62440858, rpa_c64147426, rpa_c658694, rpa_c69058906, rpa_c75046149, rpa_c79224799, rpa_c79782173, rpa_c80283000, rpa_c88260628, cond_dec q2, m0, n0, m1, n1, w1, m2, n2, w2, m3, n3, Option.isSome_some, cond_true, cond_false, w2', beq_self_eq_true, kb0, kb1, b1, b2]
        exact ob_step (by simp only [List.length_cons, List.length_nil]; omega) rfl
/-- Shapes. -/
theorem shapes_like {B : List (List Ct)} (hB : Byt (col B)) (hl : B.length ≤ 1048576) {n : Nat} (hn : n ≤ 255) (hc : (rpa_c47952215 B).fst = (n : Int)) {b : List (List Ct)} {e At E : Int} (h : Like B b e At E) :
    ∃ k1 e' b' rows k2 At' E', iter jpa_L6_step 300 ((n : Int), e, b, []) = some (k1, e', b', rows) ∧ iter (rpa_L10_step B) 300 (0, At, E, []) = some (k2, At', E', rows) ∧ Like B b' e' At' E' ∧ cS rows = rows ∧ rows.length ≤ n := by
  obtain ⟨r1, r2, g1, g2, hr⟩ := both_loops (s1 := jpa_L6_step) (s2 := rpa_L10_step B)
    (fun d (v1 : Int × Int × List (List Ct) × List (List Ct)) (v2 : Int × Int × Int × List (List Ct)) => d ≤ n ∧ v1.1 = (d : Int) ∧ v2.1 = ((n - d : Nat) : Int) ∧ Like B v1.2.2.1 v1.2.1 v2.2.1 v2.2.2.1 ∧ v1.2.2.2 = v2.2.2.2 ∧ cS v2.2.2.2 = v2.2.2.2 ∧ v2.2.2.2.length + d ≤ n)
    (fun r1 r2 => Like B r1.2.2.1 r1.2.1 r2.2.1 r2.2.2.1 ∧ r1.2.2.2 = r2.2.2.2 ∧ cS r2.2.2.2 = r2.2.2.2 ∧ r2.2.2.2.length ≤ n) (fun d v1 v2 hq => by
    obtain ⟨i, e, b, rows⟩ := v1
    obtain ⟨j, At, E, rows2⟩ := v2
    obtain ⟨hd, hi, hj, L, hrr, hcr, hlen⟩ := hq
    simp only at hi hj L hrr hcr hlen
    subst hj; subst hi; subst hrr
    cases d with
    | zero =>
      right
      refine ⟨(((0 : Nat) : Int), e, b, rows), (((n - 0 : Nat) : Int), At, E, rows), ?_, ?_, L, rfl, hcr, by simp only at hlen ⊢; omega⟩
      · simp only [jpa_L6_step]
        rw [cond_not (by omega)]
      · simp only [rpa_L10_step, hc]
        rw [cond_not (by omega)]
    | succ d =>
      have q1 : ((d + 1 : Nat) : Int) > 0 := by omega
      have q2 : ((n - (d + 1) : Nat) : Int) < (n : Int) := by omega
      by_cases he : e = 0
      · have hE : E = 0 := by rw [← L.e]; exact he
        subst he; subst hE
        left
        have w1 : IntKind.i64.wrap (((d + 1 : Nat) : Int) - 1) = (d : Int) := by rw [wrap_in (by omega) (by omega)]; omega
        have w2 : IntKind.i64.wrap (((n - (d + 1) : Nat) : Int) + 1) = ((n - d : Nat) : Int) := by rw [wrap_in (by omega) (by omega)]; omega
        obtain ⟨a0, a1, a2, a3, a4, a5, a6, a7, a8, a9, a10, a11, a12, e0, b0, A0, E0, ⟨r0, s0⟩, L0, hdoc⟩ := shape_like hB hl hn hd hc (rows := rows) (by omega) L
        refine ⟨d, ((d : Int), e0, b0, rows ++ [[Ct.i a0, Ct.i a1, Ct.i a2, Ct.i a3, Ct.i a4, Ct.i a5, Ct.i a6, Ct.i a7, Ct.i a8, Ct.i a9, Ct.i a10, Ct.i a11, Ct.i a12]]), (((n - d : Nat) : Int), A0, E0, rows ++ [[Ct.i a0, Ct.i a1, Ct.i a2, Ct.i a3, Ct.i a4, Ct.i a5, Ct.i a6, Ct.i a7, Ct.i a8, Ct.i a9, Ct.i a10, Ct.i a11, Ct.i a12]]), rfl, ?_, hdoc, by omega, rfl, rfl, L0, rfl, cS_snoc hcr, by simp only [List.length_append, List.length_cons, List.length_nil] at hlen ⊢; omega⟩
        simp only [jpa_L6_step, jpa_c20883189, jpa_c47053767, jpa_c47249889, jpa_c4755454, jpa_c50623285, jpa_c5883654, jpa_c60236699, jpa_c65951607, jpa_c73035710, jpa_c73656058, jpa_c80005064, jpa_c83617453, cond_dec q1, r0, s0, Option.isSome_some, cond_true, w1, beq_self_eq_true]
        exact ob_step (by simp only [List.length_cons, List.length_nil] at hlen ⊢; omega) rfl
      · have hE : E ≠ 0 := by rw [← L.e]; exact he
        have b1 : (e == 0) = false := by simpa using he
        have b2 : (E == 0) = false := by simpa using hE
        right
        refine ⟨(((d + 1 : Nat) : Int), e, b, rows), (((n - (d + 1) : Nat) : Int), At, E, rows), ?_, ?_, L, rfl, hcr, by simp only at hlen ⊢; omega⟩
        · simp only [jpa_L6_step, cond_dec q1, b1, cond_false]
        · simp only [rpa_L10_step, hc, cond_dec q2, b2, cond_false]) n ((n : Int), e, b, []) (0, At, E, []) 300 300 ⟨by omega, rfl, by simp, h, rfl, rfl, by simp⟩ (by omega) (by omega)
  obtain ⟨k1, e', b', rows⟩ := r1
  obtain ⟨k2, At', E', rows2⟩ := r2
  obtain ⟨h1, h2, h3, h4⟩ := hr
  simp only at h1 h2 h3 h4
  subst h2
  exact ⟨k1, e', b', rows, k2, At', E', g1, g2, h1, h3, h4⟩
/-- Tracks. -/
theorem tracks_like {B : List (List Ct)} (hB : Byt (col B)) (hl : B.length ≤ 1048576) {n : Nat} (hn : n ≤ 255) (hc : (rpa_c75046149 B).fst = (n : Int)) {b : List (List Ct)} {e At E : Int} (h : Like B b e At E) :
    ∃ k1 e' b' rows k2 At' E', iter jpa_L2_step 300 ((n : Int), e, b, []) = some (k1, e', b', rows) ∧ iter (rpa_L4_step B) 300 (0, At, E, []) = some (k2, At', E', rows) ∧ Like B b' e' At' E' ∧ cT rows = rows ∧ rows.length ≤ n ∧ ∀ k, k < rows.length → (rd rows k 1).rows.length ≤ 255 := by
  obtain ⟨r1, r2, g1, g2, hr⟩ := both_loops (s1 := jpa_L2_step) (s2 := rpa_L4_step B)
    (fun d (v1 : Int × Int × List (List Ct) × List (List Ct)) (v2 : Int × Int × Int × List (List Ct)) => d ≤ n ∧ v1.1 = (d : Int) ∧ v2.1 = ((n - d : Nat) : Int) ∧ Like B v1.2.2.1 v1.2.1 v2.2.1 v2.2.2.1 ∧ v1.2.2.2 = v2.2.2.2 ∧ cT v2.2.2.2 = v2.2.2.2 ∧ v2.2.2.2.length + d ≤ n ∧ ∀ k, k < v2.2.2.2.length → (rd v2.2.2.2 k 1).rows.length ≤ 255)
    (fun r1 r2 => Like B r1.2.2.1 r1.2.1 r2.2.1 r2.2.2.1 ∧ r1.2.2.2 = r2.2.2.2 ∧ cT r2.2.2.2 = r2.2.2.2 ∧ r2.2.2.2.length ≤ n ∧ ∀ k, k < r2.2.2.2.length → (rd r2.2.2.2 k 1).rows.length ≤ 255) (fun d v1 v2 hq => by
    obtain ⟨i, e, b, rows⟩ := v1
    obtain ⟨j, At, E, rows2⟩ := v2
    obtain ⟨hd, hi, hj, L, hrr, hcr, hlen, hfew⟩ := hq
    simp only at hi hj L hrr hcr hlen hfew
    subst hj; subst hi; subst hrr
    cases d with
    | zero =>
      right
      refine ⟨(((0 : Nat) : Int), e, b, rows), (((n - 0 : Nat) : Int), At, E, rows), ?_, ?_, L, rfl, hcr, (by simp only at hlen ⊢; omega), hfew⟩
      · simp only [jpa_L2_step]
        rw [cond_not (by omega)]
      · simp only [rpa_L4_step, hc]
        rw [cond_not (by omega)]
    | succ d =>
      have q1 : ((d + 1 : Nat) : Int) > 0 := by omega
      have q2 : ((n - (d + 1) : Nat) : Int) < (n : Int) := by omega
      by_cases he : e = 0
      · have hE : E = 0 := by rw [← L.e]; exact he
        subst he; subst hE
        left
        have w1 : IntKind.i64.wrap (((d + 1 : Nat) : Int) - 1) = (d : Int) := by rw [wrap_in (by omega) (by omega)]; omega
        have w2 : IntKind.i64.wrap (((n - (d + 1) : Nat) : Int) + 1) = ((n - d : Nat) : Int) := by rw [wrap_in (by omega) (by omega)]; omega
        obtain ⟨x0, e0, b0, A0, E0, ⟨r0, s0⟩, ⟨m0, n0⟩, ⟨v00, v01, w0⟩, L0⟩ := by_like hB hl L
        obtain ⟨kn, e1, b1, A1, E1, ⟨r1, s1⟩, ⟨m1, n1⟩, ⟨v10, v11, v12⟩, L1⟩ := mn_like hB hl L0 16 23 (by omega) (by omega)
        obtain ⟨kk, rfl⟩ := Int.eq_ofNat_of_zero_le v10
        obtain ⟨k1, e2, b2, K, k2, A2, E2, g1, g2, L2, hK, hKl⟩ := keys_like hB hl (p := At) (q := 0) (c := (kk : Int)) (n := kk) (by omega) (by simp only [rpa_c12864592, rpa_c16769207, rpa_c18288685, rpa_c18467662, rpa_c19140520, rpa_c19884455, rpa_c20495894, rpa_c23370630, rpa_c26482445, rpa_c2860090, rpa_c29551071, rpa_c3374069, rpa_c33745110, rpa_c34324691, rpa_c41454612, rpa_c47952215, rpa_c48851167, rpa_c50518072, rpa_c51777491, rpa_c54414002, rpa_c54657020, rpa_c62440858, rpa_c64147426, rpa_c658694, rpa_c69058906, rpa_c75046149, rpa_c79224799, rpa_c79782173, rpa_c80283000, rpa_c88260628, n0, n1]) L1
        obtain ⟨p1, p2⟩ := res_of g1
        obtain ⟨p3, p4⟩ := res_of g2
        have j1 : jtr_L0_p b 0 = true := by simp only [jtr_L0_p, jtr_c1216445, jtr_c37792205, s0, s1]; exact p1
        have j2 : jtr_L0_v b 0 = (k1, (kk : Int), e2, b2, K) := by simp only [jtr_L0_v, jtr_c1216445, jtr_c37792205, s0, s1]; exact p2
        have j3 : rpa_L6_p B At 0 = true := by simp only [rpa_L6_p, rpa_c12864592, rpa_c16769207, rpa_c18288685, rpa_c18467662, rpa_c19140520, rpa_c19884455, rpa_c20495894, rpa_c23370630, rpa_c26482445, rpa_c2860090, rpa_c29551071, rpa_c3374069, rpa_c33745110, rpa_c34324691, rpa_c41454612, rpa_c47952215, rpa_c48851167, rpa_c50518072, rpa_c51777491, rpa_c54414002, rpa_c54657020, rpa_c62440858, rpa_c64147426, rpa_c658694, rpa_c69058906, rpa_c75046149, rpa_c79224799, rpa_c79782173, rpa_c80283000, rpa_c88260628, n0, n1]; exact p3
        have j4 : rpa_L6_v B At 0 = (k2, A2, E2, K) := by simp only [rpa_L6_v, rpa_c12864592, rpa_c16769207, rpa_c18288685, rpa_c18467662, rpa_c19140520, rpa_c19884455, rpa_c20495894, rpa_c23370630, rpa_c26482445, rpa_c2860090, rpa_c29551071, rpa_c3374069, rpa_c33745110, rpa_c34324691, rpa_c41454612, rpa_c47952215, rpa_c48851167, rpa_c50518072, rpa_c51777491, rpa_c54414002, rpa_c54657020, rpa_c62440858, rpa_c64147426, rpa_c658694, rpa_c69058906, rpa_c75046149, rpa_c79224799, rpa_c79782173, rpa_c80283000, rpa_c88260628, n0, n1]; exact p4
        have h : jtr_res b 0 = some (e2, x0, b2, K) := by
          unfold jtr_res
          simp only [jtr_c1216445, jtr_c37792205, r0, s0, r1, s1, j1, j2, Option.isSome_some, cond_true]
        have hv : jtr_v b 0 = (e2, x0, b2, K) := by unfold jtr_v; rw [h]; rfl
        refine ⟨d, ((d : Int), e2, b2, rows ++ [[Ct.i x0, Ct.l K]]), (((n - d : Nat) : Int), A2, E2, rows ++ [[Ct.i x0, Ct.l K]]), rfl, ?_, ?_, by omega, rfl, rfl, L2, rfl, cT_snoc hK hcr, (by simp only [List.length_append, List.length_cons, List.length_nil] at hlen ⊢; omega), fun k hk => (by
          rcases Nat.lt_or_ge k rows.length with hk1 | hk1
          · rw [rd_app_left hk1]; exact hfew k hk1
          · rw [rd_app_last (by simp only [List.length_append, List.length_cons, List.length_nil] at hk; omega)]
            show K.length ≤ 255
            omega)⟩
        · simp only [jpa_L2_step, cond_dec q1, h, hv, Option.isSome_some, cond_true, w1, beq_self_eq_true]
          exact ob_step (by simp only [List.length_cons, List.length_nil] at hlen ⊢; omega) rfl
        · simp only [rpa_L4_step, hc, rpa_c12864592, rpa_c18288685, rpa_c18467662, rpa_c19140520, rpa_c19884455, rpa_c20495894, rpa_c23370630, rpa_c26482445, rpa_c2860090, rpa_c29551071, rpa_c3374069, rpa_c33745110, rpa_c34324691, rpa_c41454612, rpa_c47952215, rpa_c48851167, rpa_c50518072, rpa_c51777491, rpa_c54414002, rpa_c54657020, rpa_c62440858, rpa_c64147426, rpa_c658694, rpa_c69058906, rpa_c79224799, rpa_c79782173, rpa_c80283000, rpa_c88260628, cond_dec q2, m0, n0, w0, m1, j3, j4, Option.isSome_some, cond_true, w2, beq_self_eq_true]
          exact ob_step (by simp only [List.length_cons, List.length_nil] at hlen ⊢; omega) rfl
      · have hE : E ≠ 0 := by rw [← L.e]; exact he
        have b1 : (e == 0) = false := by simpa using he
        have b2 : (E == 0) = false := by simpa using hE
        right
        refine ⟨(((d + 1 : Nat) : Int), e, b, rows), (((n - (d + 1) : Nat) : Int), At, E, rows), ?_, ?_, L, rfl, hcr, (by simp only at hlen ⊢; omega), hfew⟩
        · simp only [jpa_L2_step, cond_dec q1, b1, cond_false]
        · simp only [rpa_L4_step, hc, cond_dec q2, b2, cond_false]) n ((n : Int), e, b, []) (0, At, E, []) 300 300 ⟨by omega, rfl, by simp, h, rfl, rfl, by simp, fun k hk => absurd hk (by simp)⟩ (by omega) (by omega)
  obtain ⟨k1, e', b', rows⟩ := r1
  obtain ⟨k2, At', E', rows2⟩ := r2
  obtain ⟨h1, h2, h3, h4, hf⟩ := hr
  simp only at h1 h2 h3 h4 hf
  subst h2
  exact ⟨k1, e', b', rows, k2, At', E', g1, g2, h1, h3, h4, hf⟩
end Go.Proofs.Ytcpbiijegbbafaa
