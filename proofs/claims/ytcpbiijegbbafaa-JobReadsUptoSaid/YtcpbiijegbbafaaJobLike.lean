/- Both Parses, side by side. No condition. -/
import Derived.Test.YtcpbiijegbbafaaEngJob7
import Derived.Test.YtcpbiijegbbafaaEngJob8
import Derived.Test.YtcpbiijegbbafaaMirrorB
import Derived.Test.YtcpbiijegbbafaaSceneChk
set_option linter.unusedVariables false
set_option linter.unusedSimpArgs false
namespace Go.Proofs.Ytcpbiijegbbafaa
open Go.RowKit

theorem by_like {B b : List (List Ct)} {e At E : Int} (hB : Byt (col B)) (hl : B.length ≤ 1048576) (h : Like B b e At E) :
    ∃ v e' b' At' E', (rby_res b e = some (v, e', b') ∧ rby_v b e = (v, e', b')) ∧ (mnu_res B At E 1 = some (v, At', E') ∧ mnu_v B At E 1 = (v, At', E')) ∧ (0 ≤ v ∧ v < 256 ∧ IntKind.i64.wrap v = v) ∧ Like B b' e' At' E' := by
  obtain ⟨v, e', b', At', E', ⟨r1, r2⟩, ⟨m1, m2⟩, hv, hL⟩ := raw_like hB hl h (n := 1) (by omega)
  rw [show ((1 : Nat) : Int) = 1 from rfl] at r1 r2 m1 m2
  rw [show (256 : Int) ^ 1 = 256 from rfl] at hv
  have w : IntKind.i64.wrap v = v := wrap_in (by omega) (by omega)
  have s1 : rby_res b e = some (v, e', b') := by unfold rby_res; rw [r1, r2]; simp only [w]; rfl
  exact ⟨v, e', b', At', E', ⟨s1, by unfold rby_v; rw [s1]; rfl⟩, ⟨m1, m2⟩, ⟨hv.1, hv.2, w⟩, hL⟩
theorem ha_like {B b : List (List Ct)} {e At E : Int} (hB : Byt (col B)) (hl : B.length ≤ 1048576) (h : Like B b e At E) :
    ∃ v e' b' At' E', (rha_res b e = some (v, e', b') ∧ rha_v b e = (v, e', b')) ∧ (mnu_res B At E 2 = some (v, At', E') ∧ mnu_v B At E 2 = (v, At', E')) ∧ (0 ≤ v ∧ v < 65536 ∧ IntKind.i64.wrap v = v) ∧ Like B b' e' At' E' := by
  obtain ⟨v, e', b', At', E', ⟨r1, r2⟩, ⟨m1, m2⟩, hv, hL⟩ := raw_like hB hl h (n := 2) (by omega)
  rw [show ((2 : Nat) : Int) = 2 from rfl] at r1 r2 m1 m2
  rw [show (256 : Int) ^ 2 = 65536 from rfl] at hv
  have w : IntKind.i64.wrap v = v := wrap_in (by omega) (by omega)
  have s1 : rha_res b e = some (v, e', b') := by unfold rha_res; rw [r1, r2]; simp only [w]; rfl
  exact ⟨v, e', b', At', E', ⟨s1, by unfold rha_v; rw [s1]; rfl⟩, ⟨m1, m2⟩, ⟨hv.1, hv.2, w⟩, hL⟩
theorem lo_like {B b : List (List Ct)} {e At E : Int} (hB : Byt (col B)) (hl : B.length ≤ 1048576) (h : Like B b e At E) :
    ∃ v e' b' At' E', (rlo_res b e = some (v, e', b') ∧ rlo_v b e = (v, e', b')) ∧ (mnu_res B At E 8 = some (v, At', E') ∧ mnu_v B At E 8 = (v, At', E')) ∧ Like B b' e' At' E' := by
  obtain ⟨v, e', b', At', E', ⟨r1, r2⟩, ⟨m1, m2⟩, hv, hL⟩ := raw_like hB hl h (n := 8) (by omega)
  rw [show ((8 : Nat) : Int) = 8 from rfl] at r1 r2 m1 m2
  have s1 : rlo_res b e = some (v, e', b') := by unfold rlo_res; rw [r1, r2]; rfl
  exact ⟨v, e', b', At', E', ⟨s1, by unfold rlo_v; rw [s1]; rfl⟩, ⟨m1, m2⟩, hL⟩
theorem Like.fail {B : List (List Ct)} {At : Int} {c : Int} (hc : c ≠ 0) : Like B [] c At c := ⟨rfl, fun h => absurd h hc, fun _ => rfl⟩
theorem mn_like {B b : List (List Ct)} {e At E : Int} (hB : Byt (col B)) (hl : B.length ≤ 1048576) (h : Like B b e At E) (most c : Int) (hm : 0 ≤ most) (hc : c ≠ 0) :
    ∃ v e' b' At' E', (jmn_res b e most c = some (v, e', b') ∧ jmn_v b e most c = (v, e', b')) ∧ (rmn_res B At E most c = some (v, At', E') ∧ rmn_v B At E most c = (v, At', E')) ∧ (0 ≤ v ∧ v ≤ most ∧ v < 256) ∧ Like B b' e' At' E' := by
  obtain ⟨v, e', b', At', E', ⟨r1, r2⟩, ⟨m1, m2⟩, ⟨v0, v1, w⟩, hL⟩ := by_like hB hl h
  have fin : ∀ x y, jmn_res b e most c = some x → rmn_res B At E most c = some y → (jmn_res b e most c = some x ∧ jmn_v b e most c = x) ∧ (rmn_res B At E most c = some y ∧ rmn_v B At E most c = y) := fun x y hx hy => ⟨⟨hx, by unfold jmn_v; rw [hx]; rfl⟩, ⟨hy, by unfold rmn_v; rw [hy]; rfl⟩⟩
  have hcb : (c != 0) = true := by simpa using hc
  by_cases q : v > most
  · by_cases he : e' = 0
    · have hE : E' = 0 := by rw [← hL.e]; exact he
      subst he; subst hE
      obtain ⟨f1, f2⟩ := fin (0, c, []) (0, At', c) (by simp only [jmn_res, r1, r2, cond_dec q, Option.isSome_some, cond_true, beq_self_eq_true, hcb]) (by simp only [rmn_res, rmn_c39547249, m1, m2, w, cond_dec q, Option.isSome_some, cond_true, beq_self_eq_true])
      exact ⟨0, c, [], At', c, f1, f2, ⟨by omega, hm, by omega⟩, Like.fail hc⟩
    · have hE : E' ≠ 0 := by rw [← hL.e]; exact he
      have b1 : (e' == 0) = false := by simpa using he
      have b2 : (E' == 0) = false := by simpa using hE
      obtain ⟨f1, f2⟩ := fin (0, e', b') (0, At', E') (by simp only [jmn_res, r1, r2, cond_dec q, Option.isSome_some, cond_true, b1, cond_false]) (by simp only [rmn_res, rmn_c39547249, m1, m2, w, cond_dec q, Option.isSome_some, cond_true, b2, cond_false])
      exact ⟨0, e', b', At', E', f1, f2, ⟨by omega, hm, by omega⟩, hL⟩
  · obtain ⟨f1, f2⟩ := fin (v, e', b') (v, At', E') (by simp only [jmn_res, r1, r2, cond_not q, Option.isSome_some, cond_true]) (by simp only [rmn_res, rmn_c39547249, m1, m2, w, cond_not q, Option.isSome_some, cond_true])
    exact ⟨v, e', b', At', E', f1, f2, ⟨v0, by omega, v1⟩, hL⟩
/-- Two loops that go side by side, d rounds at most. -/
theorem both_loops {V1 R1 V2 R2 : Type} {s1 : V1 → Option (V1 ⊕ R1)} {s2 : V2 → Option (V2 ⊕ R2)} (Q : Nat → V1 → V2 → Prop) (QR : R1 → R2 → Prop)
    (h : ∀ d v1 v2, Q d v1 v2 → (∃ d' v1' v2', d = d' + 1 ∧ s1 v1 = some (.inl v1') ∧ s2 v2 = some (.inl v2') ∧ Q d' v1' v2') ∨ (∃ r1 r2, s1 v1 = some (.inr r1) ∧ s2 v2 = some (.inr r2) ∧ QR r1 r2)) :
    ∀ d v1 v2 f1 f2, Q d v1 v2 → d < f1 → d < f2 → ∃ r1 r2, iter s1 f1 v1 = some r1 ∧ iter s2 f2 v2 = some r2 ∧ QR r1 r2 := by
  intro d
  induction d with
  | zero =>
    intro v1 v2 f1 f2 hq h1 h2
    obtain ⟨f1, rfl⟩ : ∃ k, f1 = k + 1 := ⟨f1 - 1, by omega⟩
    obtain ⟨f2, rfl⟩ : ∃ k, f2 = k + 1 := ⟨f2 - 1, by omega⟩
    rcases h 0 v1 v2 hq with ⟨d', _, _, hd, _⟩ | ⟨r1, r2, e1, e2, hr⟩
    · omega
    · exact ⟨r1, r2, iter_inr e1, iter_inr e2, hr⟩
  | succ d ih =>
    intro v1 v2 f1 f2 hq h1 h2
    obtain ⟨f1, rfl⟩ : ∃ k, f1 = k + 1 := ⟨f1 - 1, by omega⟩
    obtain ⟨f2, rfl⟩ : ∃ k, f2 = k + 1 := ⟨f2 - 1, by omega⟩
    rcases h (d + 1) v1 v2 hq with ⟨d', v1', v2', hd, e1, e2, hq'⟩ | ⟨r1, r2, e1, e2, hr⟩
    · obtain rfl : d = d' := by omega
      obtain ⟨r1, r2, g1, g2, hr⟩ := ih v1' v2' f1 f2 hq' (by omega) (by omega)
      exact ⟨r1, r2, by rw [iter_inl e1]; exact g1, by rw [iter_inl e2]; exact g2, hr⟩
    · exact ⟨r1, r2, iter_inr e1, iter_inr e2, hr⟩
theorem res_of {V R : Type} [Inhabited R] {s : V → Option (V ⊕ R)} {n : Nat} {v : V} {r : R} (h : iter s n v = some r) : (iter s n v).isSome = true ∧ loopRes s n v = r := by unfold loopRes; rw [h]; exact ⟨rfl, rfl⟩
/-- What stands ahead. -/
theorem magic_like {B b : List (List Ct)} {e At E : Int} (hB : Byt (col B)) (hl : B.length ≤ 1048576) (h : Like B b e At E) :
    ∃ e' b' At' E' k, (jmg_res b e = some (e', b') ∧ jmg_v b e = (e', b')) ∧ iter (rpa_L0_step B) 300 (0, At, E) = some (k, At', E') ∧ Like B b' e' At' E' := by
  have hx : ∀ k : Nat, k < 4 → ∃ c : Int, (rd [[Ct.i (90 : Int)], [Ct.i (79 : Int)], [Ct.i (69 : Int)], [Ct.i (49 : Int)]] k 0).int = c ∧ IntKind.i64.wrap c = c := by
    intro k hk
    have c : k = 0 ∨ k = 1 ∨ k = 2 ∨ k = 3 := by omega
    rcases c with rfl | rfl | rfl | rfl
    · exact ⟨90, rfl, rfl⟩
    · exact ⟨79, rfl, rfl⟩
    · exact ⟨69, rfl, rfl⟩
    · exact ⟨49, rfl, rfl⟩
  obtain ⟨r1, r2, g1, g2, hr⟩ := both_loops (s1 := jmg_L0_step) (s2 := rpa_L0_step B)
    (fun d (v1 : Int × Int × List (List Ct)) (v2 : Int × Int × Int) => d ≤ 4 ∧ v1.1 = ((4 - d : Nat) : Int) ∧ v2.1 = v1.1 ∧ Like B v1.2.2 v1.2.1 v2.2.1 v2.2.2) (fun r1 r2 => Like B r1.2.2 r1.2.1 r2.2.1 r2.2.2) (fun d v1 v2 hq => by
    obtain ⟨i, e, b⟩ := v1
    obtain ⟨j, At, E⟩ := v2
    obtain ⟨hd, hi, hj, hL⟩ := hq
    simp only at hi hj hL
    subst hj; subst hi
    have L4 : ((([[Ct.i (90 : Int)], [Ct.i (79 : Int)], [Ct.i (69 : Int)], [Ct.i (49 : Int)]] : List (List Ct)).length : Nat) : Int) = 4 := rfl
    cases d with
    | zero =>
      right
      refine ⟨(4, e, b), (4, At, E), ?_, ?_, hL⟩
      · simp only [jmg_L0_step, L4, Nat.sub_zero]
        rw [cond_not (by omega)]; rfl
      · simp only [rpa_L0_step, Nat.sub_zero]
        rw [cond_not (by omega)]; rfl
    | succ d =>
      left
      have q1 : ((4 - (d + 1) : Nat) : Int) < 4 := by omega
      have q2 : (0 : Int) ≤ ((4 - (d + 1) : Nat) : Int) ∧ ((4 - (d + 1) : Nat) : Int) < 4 := by omega
      have w1 : IntKind.i64.wrap (((4 - (d + 1) : Nat) : Int) + 1) = ((4 - d : Nat) : Int) := by rw [wrap_in (by omega) (by omega)]; omega
      obtain ⟨v, e', b', At', E', ⟨r1, r2⟩, ⟨m1, m2⟩, ⟨v0, v1, w⟩, hL'⟩ := by_like hB hl hL
      obtain ⟨c, hc, hw⟩ := hx (4 - (d + 1)) (by omega)
      by_cases he : e' = 0
      · have hE : E' = 0 := by rw [← hL'.e]; exact he
        subst he; subst hE
        by_cases hv : v = c
        · subst hv
          refine ⟨d, (((4 - d : Nat) : Int), 0, b'), (((4 - d : Nat) : Int), At', 0), rfl, ?_, ?_, by omega, rfl, rfl, hL'⟩
          · simp only [jmg_L0_step, L4, cond_dec q1, cond_dec q2, r1, r2, Option.isSome_some, cond_true, Int.toNat_natCast, hc, hw, w1, bne_self_eq_false, cond_false, beq_self_eq_true]
          · simp only [rpa_L0_step, rpa_c12864592, rpa_c16769207, rpa_c18288685, rpa_c18467662, rpa_c19140520, rpa_c19884455, rpa_c20495894, rpa_c23370630, rpa_c26482445, rpa_c2860090, rpa_c29551071, rpa_c3374069, rpa_c33745110, rpa_c34324691, rpa_c41454612, rpa_c47952215, rpa_c48851167, rpa_c50518072, rpa_c51777491, rpa_c54414002, rpa_c54657020, rpa_c62440858, rpa_c64147426, rpa_c658694, rpa_c69058906, rpa_c75046149, rpa_c79224799, rpa_c79782173, rpa_c80283000, rpa_c88260628, L4, cond_dec q1, cond_dec q2, m1, m2, Option.isSome_some, cond_true, Int.toNat_natCast, hc, w1, bne_self_eq_false, cond_false, beq_self_eq_true]
        · have hn : (v != c) = true := by simpa using hv
          refine ⟨d, (((4 - d : Nat) : Int), 20, []), (((4 - d : Nat) : Int), At', 20), rfl, ?_, ?_, by omega, rfl, rfl, Like.fail (show (20 : Int) ≠ 0 by omega)⟩
          · simp only [jmg_L0_step, L4, cond_dec q1, cond_dec q2, r1, r2, Option.isSome_some, cond_true, Int.toNat_natCast, hc, hw, w1, hn, beq_self_eq_true]
          · simp only [rpa_L0_step, rpa_c12864592, rpa_c16769207, rpa_c18288685, rpa_c18467662, rpa_c19140520, rpa_c19884455, rpa_c20495894, rpa_c23370630, rpa_c26482445, rpa_c2860090, rpa_c29551071, rpa_c3374069, rpa_c33745110, rpa_c34324691, rpa_c41454612, rpa_c47952215, rpa_c48851167, rpa_c50518072, rpa_c51777491, rpa_c54414002, rpa_c54657020, rpa_c62440858, rpa_c64147426, rpa_c658694, rpa_c69058906, rpa_c75046149, rpa_c79224799, rpa_c79782173, rpa_c80283000, rpa_c88260628, L4, cond_dec q1, cond_dec q2, m1, m2, Option.isSome_some, cond_true, Int.toNat_natCast, hc, w1, hn, beq_self_eq_true]
      · have hE : E' ≠ 0 := by rw [← hL'.e]; exact he
        have b1 : (e' == 0) = false := by simpa using he
        have b2 : (E' == 0) = false := by simpa using hE
        refine ⟨d, (((4 - d : Nat) : Int), e', b'), (((4 - d : Nat) : Int), At', E'), rfl, ?_, ?_, by omega, rfl, rfl, hL'⟩
        · simp only [jmg_L0_step, L4, cond_dec q1, cond_dec q2, r1, r2, Option.isSome_some, cond_true, w1, b1, cond_false]
        · simp only [rpa_L0_step, rpa_c12864592, rpa_c16769207, rpa_c18288685, rpa_c18467662, rpa_c19140520, rpa_c19884455, rpa_c20495894, rpa_c23370630, rpa_c26482445, rpa_c2860090, rpa_c29551071, rpa_c3374069, rpa_c33745110, rpa_c34324691, rpa_c41454612, rpa_c47952215, rpa_c48851167, rpa_c50518072, rpa_c51777491, rpa_c54414002, rpa_c54657020, rpa_c62440858, rpa_c64147426, rpa_c658694, rpa_c69058906, rpa_c75046149, rpa_c79224799, rpa_c79782173, rpa_c80283000, rpa_c88260628, L4, cond_dec q1, cond_dec q2, m1, m2, Option.isSome_some, cond_true, w1, b2, cond_false]) 4 (0, e, b) (0, At, E) 5 300 ⟨by omega, rfl, rfl, h⟩ (by omega) (by omega)
  obtain ⟨p1, p2⟩ := res_of g1
  obtain ⟨k1, e', b'⟩ := r1
  obtain ⟨k2, At', E'⟩ := r2
  have h1 : jmg_res b e = some (e', b') := by
    have q : jmg_L0_p b e = true := p1
    have q2 : jmg_L0_v b e = (k1, e', b') := p2
    unfold jmg_res
    rw [q, q2]; rfl
  exact ⟨e', b', At', E', k2, ⟨h1, by unfold jmg_v; rw [h1]; rfl⟩, g2, hr⟩
/-- A header: the program's; the document's reads one behind the other. -/
theorem head_like {B b : List (List Ct)} {e At E : Int} (hB : Byt (col B)) (hl : B.length ≤ 1048576) (L : Like B b e At E) :
    ∃ x0 x1 x2 x3 x4 x5 x6 x7 x8 x9 x10 x11 x12 e' b' At' E', (jhd_res b e = some (e', x0, x1, x2, x3, x4, x5, x6, x7, x8, x9, x10, x11, x12, b') ∧ jhd_v b e = (e', x0, x1, x2, x3, x4, x5, x6, x7, x8, x9, x10, x11, x12, b')) ∧ Like B b' e' At' E' ∧
      ∃ A0 E0 A1 E1 A2 E2 A3 E3 A4 E4 A5 E5 A6 E6 A7 E7 A8 E8 A9 E9,
      (mnu_res B At E 2 = some (x0, A0, E0) ∧ mnu_v B At E 2 = (x0, A0, E0)) ∧ (mnu_res B A0 E0 2 = some (x1, A1, E1) ∧ mnu_v B A0 E0 2 = (x1, A1, E1)) ∧ (mnu_res B A1 E1 2 = some (x2, A2, E2) ∧ mnu_v B A1 E1 2 = (x2, A2, E2)) ∧
      (mnu_res B A2 E2 2 = some (x3, A3, E3) ∧ mnu_v B A2 E2 2 = (x3, A3, E3)) ∧ (mnu_res B A3 E3 2 = some (x4, A4, E4) ∧ mnu_v B A3 E3 2 = (x4, A4, E4)) ∧ (mfx_res B A4 E4 = some (x5, A5, E5) ∧ mfx_v B A4 E4 = (x5, A5, E5)) ∧
      (mnu_res B A5 E5 8 = some (x6, A6, E6) ∧ mnu_v B A5 E5 8 = (x6, A6, E6)) ∧ (mvc_res B A6 E6 = some (A7, E7, x7, x8, x9) ∧ mvc_v B A6 E6 = (A7, E7, x7, x8, x9)) ∧ (mnu_res B A7 E7 2 = some (x10, A8, E8) ∧ mnu_v B A7 E7 2 = (x10, A8, E8)) ∧
      (mnu_res B A8 E8 2 = some (x11, A9, E9) ∧ mnu_v B A8 E8 2 = (x11, A9, E9)) ∧ (mfx_res B A9 E9 = some (x12, At', E') ∧ mfx_v B A9 E9 = (x12, At', E')) ∧
      (IntKind.i64.wrap x0 = x0 ∧ IntKind.i64.wrap x1 = x1 ∧ IntKind.i64.wrap x2 = x2 ∧ IntKind.i64.wrap x3 = x3 ∧ IntKind.i64.wrap x4 = x4 ∧ IntKind.i64.wrap x10 = x10 ∧ IntKind.i64.wrap x11 = x11) := by
  obtain ⟨x0, e0, b0, A0, E0, ⟨r0, s0⟩, ⟨m0, n0⟩, ⟨v00, v01, w0⟩, L0⟩ := ha_like hB hl L
  obtain ⟨x1, e1, b1, A1, E1, ⟨r1, s1⟩, ⟨m1, n1⟩, ⟨v10, v11, w1⟩, L1⟩ := ha_like hB hl L0
  obtain ⟨x2, e2, b2, A2, E2, ⟨r2, s2⟩, ⟨m2, n2⟩, ⟨v20, v21, w2⟩, L2⟩ := ha_like hB hl L1
  obtain ⟨x3, e3, b3, A3, E3, ⟨r3, s3⟩, ⟨m3, n3⟩, ⟨v30, v31, w3⟩, L3⟩ := ha_like hB hl L2
  obtain ⟨x4, e4, b4, A4, E4, ⟨r4, s4⟩, ⟨m4, n4⟩, ⟨v40, v41, w4⟩, L4⟩ := ha_like hB hl L3
  obtain ⟨x5, e5, b5, A5, E5, ⟨r5, s5⟩, ⟨m5, n5⟩, L5⟩ := fix_like hB hl L4
  obtain ⟨x6, e6, b6, A6, E6, ⟨r6, s6⟩, ⟨m6, n6⟩, L6⟩ := lo_like hB hl L5
  obtain ⟨x7, x8, x9, e7, b7, A7, E7, ⟨r7, s7⟩, ⟨t7, u7⟩, ⟨m7, n7⟩, L7⟩ := vec_like hB hl L6
  obtain ⟨x10, e8, b8, A8, E8, ⟨r8, s8⟩, ⟨m8, n8⟩, ⟨v80, v81, w8⟩, L8⟩ := ha_like hB hl L7
  obtain ⟨x11, e9, b9, A9, E9, ⟨r9, s9⟩, ⟨m9, n9⟩, ⟨v90, v91, w9⟩, L9⟩ := ha_like hB hl L8
  obtain ⟨x12, e10, b10, A10, E10, ⟨r10, s10⟩, ⟨m10, n10⟩, L10⟩ := fix_like hB hl L9
  have h : jhd_res b e = some (e10, x0, x1, x2, x3, x4, x5, x6, x7, x8, x9, x10, x11, x12, b10) := by
    unfold jhd_res
    simp only [jhd_c17184720, jhd_c35502068, jhd_c36481480, jhd_c44496859, jhd_c66210604, jhd_c71052834, jhd_c85590025, jhd_c89713168, jhd_c90178404, jhd_c95884390, r0, s0, r1, s1, r2, s2, r3, s3, r4, s4, r5, s5, r6, s6, r7, s7, t7, u7, r8, s8, r9, s9, r10, s10, Option.isSome_some, cond_true]
  refine ⟨x0, x1, x2, x3, x4, x5, x6, x7, x8, x9, x10, x11, x12, e10, b10, A10, E10, ⟨h, by unfold jhd_v; rw [h]; rfl⟩, L10, A0, E0, A1, E1, A2, E2, A3, E3, A4, E4, A5, E5, A6, E6, A7, E7, A8, E8, A9, E9, ⟨m0, n0⟩, ⟨m1, n1⟩, ⟨m2, n2⟩, ⟨m3, n3⟩, ⟨m4, n4⟩, ⟨m5, n5⟩, ⟨m6, n6⟩, ⟨m7, n7⟩, ⟨m8, n8⟩, ⟨m9, n9⟩, ⟨m10, n10⟩, w0, w1, w2, w3, w4, w8, w9⟩
theorem cP_snoc {l : List (List Ct)} {a0 a1 a2 a3 a4 : Int} (h : cP l = l) : cP (l ++ [[.i a0, .i a1, .i a2, .i a3, .i a4]]) = l ++ [[.i a0, .i a1, .i a2, .i a3, .i a4]] := by
  have e : cP (l ++ [[.i a0, .i a1, .i a2, .i a3, .i a4]]) = tab (gP (l ++ [[.i a0, .i a1, .i a2, .i a3, .i a4]])) (l.length + 1) := by simp only [cP, List.length_append, List.length_cons, List.length_nil]
  rw [e, ← tab_succ]
  congr 1
  · refine Eq.trans ?_ h
    unfold cP tab
    refine List.map_congr_left fun k hk => ?_
    have hk' : k < l.length := List.mem_range.1 hk
    simp only [gP, rd_app_left hk']
  · simp only [gP, rd_app_last rfl, List.getD_cons_zero, List.getD_cons_succ, Ct.int, Ct.rows]
theorem cJ_snoc {l : List (List Ct)} {a0 a1 a2 a3 : Int} (h : cJ l = l) : cJ (l ++ [[.i a0, .i a1, .i a2, .i a3]]) = l ++ [[.i a0, .i a1, .i a2, .i a3]] := by
  have e : cJ (l ++ [[.i a0, .i a1, .i a2, .i a3]]) = tab (gJ (l ++ [[.i a0, .i a1, .i a2, .i a3]])) (l.length + 1) := by simp only [cJ, List.length_append, List.length_cons, List.length_nil]
  rw [e, ← tab_succ]
  congr 1
  · refine Eq.trans ?_ h
    unfold cJ tab
    refine List.map_congr_left fun k hk => ?_
    have hk' : k < l.length := List.mem_range.1 hk
    simp only [gJ, rd_app_left hk']
  · simp only [gJ, rd_app_last rfl, List.getD_cons_zero, List.getD_cons_succ, Ct.int, Ct.rows]
theorem cK_snoc {l : List (List Ct)} {a0 a1 a2 a3 : Int} (h : cK l = l) : cK (l ++ [[.i a0, .i a1, .i a2, .i a3]]) = l ++ [[.i a0, .i a1, .i a2, .i a3]] := by
  have e : cK (l ++ [[.i a0, .i a1, .i a2, .i a3]]) = tab (gK (l ++ [[.i a0, .i a1, .i a2, .i a3]])) (l.length + 1) := by simp only [cK, List.length_append, List.length_cons, List.length_nil]
  rw [e, ← tab_succ]
  congr 1
  · refine Eq.trans ?_ h
    unfold cK tab
    refine List.map_congr_left fun k hk => ?_
    have hk' : k < l.length := List.mem_range.1 hk
    simp only [gK, rd_app_left hk']
  · simp only [gK, rd_app_last rfl, List.getD_cons_zero, List.getD_cons_succ, Ct.int, Ct.rows]
theorem cS_snoc {l : List (List Ct)} {a0 a1 a2 a3 a4 a5 a6 a7 a8 a9 a10 a11 a12 : Int} (h : cS l = l) : cS (l ++ [[.i a0, .i a1, .i a2, .i a3, .i a4, .i a5, .i a6, .i a7, .i a8, .i a9, .i a10, .i a11, .i a12]]) = l ++ [[.i a0, .i a1, .i a2, .i a3, .i a4, .i a5, .i a6, .i a7, .i a8, .i a9, .i a10, .i a11, .i a12]] := by
  have e : cS (l ++ [[.i a0, .i a1, .i a2, .i a3, .i a4, .i a5, .i a6, .i a7, .i a8, .i a9, .i a10, .i a11, .i a12]]) = tab (gS (l ++ [[.i a0, .i a1, .i a2, .i a3, .i a4, .i a5, .i a6, .i a7, .i a8, .i a9, .i a10, .i a11, .i a12]])) (l.length + 1) := by simp only [cS, List.length_append, List.length_cons, List.length_nil]
  rw [e, ← tab_succ]
  congr 1
  · refine Eq.trans ?_ h
    unfold cS tab
    refine List.map_congr_left fun k hk => ?_
    have hk' : k < l.length := List.mem_range.1 hk
    simp only [gS, rd_app_left hk']
  · simp only [gS, rd_app_last rfl, List.getD_cons_zero, List.getD_cons_succ, Ct.int, Ct.rows]
theorem cT_snoc {l : List (List Ct)} {a : Int} {K : List (List Ct)} (hk : cK K = K) (h : cT l = l) : cT (l ++ [[.i a, .l K]]) = l ++ [[.i a, .l K]] := by
  have e : cT (l ++ [[.i a, .l K]]) = tab (gT (l ++ [[.i a, .l K]])) (l.length + 1) := by simp only [cT, List.length_append, List.length_cons, List.length_nil]
  rw [e, ← tab_succ]
  congr 1
  · refine Eq.trans ?_ h
    unfold cT tab
    refine List.map_congr_left fun k hk => ?_
    have hk' : k < l.length := List.mem_range.1 hk
    simp only [gT, rd_app_left hk']
  · simp only [gT, rd_app_last rfl, List.getD_cons_zero, List.getD_cons_succ, Ct.int, Ct.rows, hk]
/-- Paints. -/
theorem paints_like {B : List (List Ct)} (hB : Byt (col B)) (hl : B.length ≤ 1048576) {n : Nat} (hn : n ≤ 255) (hc : (rpa_c64147426 B).fst = (n : Int)) {b : List (List Ct)} {e At E : Int} (h : Like B b e At E) :
    ∃ k1 e' b' rows k2 At' E', iter jpa_L0_step 300 ((n : Int), e, b, []) = some (k1, e', b', rows) ∧ iter (rpa_L2_step B) 300 (0, At, E, []) = some (k2, At', E', rows) ∧ Like B b' e' At' E' ∧ cP rows = rows ∧ rows.length ≤ n := by
  obtain ⟨r1, r2, g1, g2, hr⟩ := both_loops (s1 := jpa_L0_step) (s2 := rpa_L2_step B)
    (fun d (v1 : Int × Int × List (List Ct) × List (List Ct)) (v2 : Int × Int × Int × List (List Ct)) => d ≤ n ∧ v1.1 = (d : Int) ∧ v2.1 = ((n - d : Nat) : Int) ∧ Like B v1.2.2.1 v1.2.1 v2.2.1 v2.2.2.1 ∧ v1.2.2.2 = v2.2.2.2 ∧ cP v2.2.2.2 = v2.2.2.2 ∧ v2.2.2.2.length + d ≤ n)
    (fun r1 r2 => Like B r1.2.2.1 r1.2.1 r2.2.1 r2.2.2.1 ∧ r1.2.2.2 = r2.2.2.2 ∧ cP r2.2.2.2 = r2.2.2.2 ∧ r2.2.2.2.length ≤ n) (fun d v1 v2 hq => by
    obtain ⟨i, e, b, rows⟩ := v1
    obtain ⟨j, At, E, rows2⟩ := v2
    obtain ⟨hd, hi, hj, L, hrr, hcr, hlen⟩ := hq
    simp only at hi hj L hrr hcr hlen
    subst hj; subst hi; subst hrr
    cases d with
    | zero =>
      right
      refine ⟨(((0 : Nat) : Int), e, b, rows), (((n - 0 : Nat) : Int), At, E, rows), ?_, ?_, L, rfl, hcr, by simp only at hlen ⊢; omega⟩
      · simp only [jpa_L0_step]
        rw [cond_not (by omega)]
      · simp only [rpa_L2_step, hc]
        rw [cond_not (by omega)]
    | succ d =>
      have q1 : ((d + 1 : Nat) : Int) > 0 := by omega
      have q2 : ((n - (d + 1) : Nat) : Int) < (n : Int) := by omega
      by_cases he : e = 0
      · have hE : E = 0 := by rw [← L.e]; exact he
        subst he; subst hE
        left
        have w1 : IntKind.i64.wrap (((d + 1 : Nat) : Int) - 1) = (d : Int) := by rw [wrap_in (by omega) (by omega)]; omega
        have w2 : IntKind.i64.wrap (((n - (d + 1) : Nat) : Int) + 1) = ((n - d : Nat) : Int) := by rw [wrap_in (by omega) (by omega)]; omega
        obtain ⟨x0, e0, b0, A0, E0, ⟨r0, s0⟩, ⟨m0, n0⟩, ⟨v00, v01, w0⟩, L0⟩ := by_like hB hl L
        obtain ⟨x1, x2, x3, e1, b1, A1, E1, ⟨r1, s1⟩, ⟨t1, u1⟩, ⟨m1, n1⟩, L1⟩ := vec_like hB hl L0
        obtain ⟨x4, e2, b2, A2, E2, ⟨r2, s2⟩, ⟨m2, n2⟩, L2⟩ := fix_like hB hl L1
        refine ⟨d, ((d : Int), e2, b2, rows ++ [[Ct.i x0, Ct.i x1, Ct.i x2, Ct.i x3, Ct.i x4]]), (((n - d : Nat) : Int), A2, E2, rows ++ [[Ct.i x0, Ct.i x1, Ct.i x2, Ct.i x3, Ct.i x4]]), rfl, ?_, ?_, by omega, rfl, rfl, L2, rfl, cP_snoc hcr, by simp only [List.length_append, List.length_cons, List.length_nil] at hlen ⊢; omega⟩
        · simp only [jpa_L0_step, jpa_c20883189, jpa_c47053767, jpa_c47249889, jpa_c4755454, jpa_c50623285, jpa_c5883654, jpa_c60236699, jpa_c65951607, jpa_c73035710, jpa_c73656058, jpa_c80005064, jpa_c83617453, cond_dec q1, r0, s0, r1, s1, t1, u1, r2, s2, Option.isSome_some, cond_true, w1, beq_self_eq_true]
          exact ob_step (by simp only [List.length_cons, List.length_nil] at hlen ⊢; omega) rfl
        · simp only [rpa_L2_step, hc, rpa_c12864592, rpa_c16769207, rpa_c18288685, rpa_c18467662, rpa_c19140520, rpa_c19884455, rpa_c20495894, rpa_c23370630, rpa_c26482445, rpa_c2860090, rpa_c29551071, rpa_c3374069, rpa_c33745110, rpa_c34324691, rpa_c41454612, rpa_c47952215, rpa_c48851167, rpa_c50518072, rpa_c51777491, rpa_c54414002, rpa_c54657020, rpa_c62440858, rpa_c658694, rpa_c69058906, rpa_c75046149, rpa_c79224799, rpa_c79782173, rpa_c80283000, rpa_c88260628, cond_dec q2, m0, n0, w0, m1, n1, m2, n2, Option.isSome_some, cond_true, w2, beq_self_eq_true]
          exact ob_step (by simp only [List.length_cons, List.length_nil] at hlen ⊢; omega) rfl
      · have hE : E ≠ 0 := by rw [← L.e]; exact he
        have b1 : (e == 0) = false := by simpa using he
        have b2 : (E == 0) = false := by simpa using hE
        right
        refine ⟨(((d + 1 : Nat) : Int), e, b, rows), (((n - (d + 1) : Nat) : Int), At, E, rows), ?_, ?_, L, rfl, hcr, by simp only at hlen ⊢; omega⟩
        · simp only [jpa_L0_step, cond_dec q1, b1, cond_false]
        · simp only [rpa_L2_step, hc, cond_dec q2, b2, cond_false]) n ((n : Int), e, b, []) (0, At, E, []) 300 300 ⟨by omega, rfl, by simp, h, rfl, rfl, by simp⟩ (by omega) (by omega)
  obtain ⟨k1, e', b', rows⟩ := r1
  obtain ⟨k2, At', E', rows2⟩ := r2
  obtain ⟨h1, h2, h3, h4⟩ := hr
  simp only at h1 h2 h3 h4
  subst h2
  exact ⟨k1, e', b', rows, k2, At', E', g1, g2, h1, h3, h4⟩
/-- Joints. -/
theorem joints_like {B : List (List Ct)} (hB : Byt (col B)) (hl : B.length ≤ 1048576) {n : Nat} (hn : n ≤ 255) (hc : (rpa_c79224799 B).fst = (n : Int)) {b : List (List Ct)} {e At E : Int} (h : Like B b e At E) :
    ∃ k1 e' b' rows k2 At' E', iter jpa_L4_step 300 ((n : Int), e, b, []) = some (k1, e', b', rows) ∧ iter (rpa_L8_step B) 300 (0, At, E, []) = some (k2, At', E', rows) ∧ Like B b' e' At' E' ∧ cJ rows = rows ∧ rows.length ≤ n := by
  obtain ⟨r1, r2, g1, g2, hr⟩ := both_loops (s1 := jpa_L4_step) (s2 := rpa_L8_step B)
    (fun d (v1 : Int × Int × List (List Ct) × List (List Ct)) (v2 : Int × Int × Int × List (List Ct)) => d ≤ n ∧ v1.1 = (d : Int) ∧ v2.1 = ((n - d : Nat) : Int) ∧ Like B v1.2.2.1 v1.2.1 v2.2.1 v2.2.2.1 ∧ v1.2.2.2 = v2.2.2.2 ∧ cJ v2.2.2.2 = v2.2.2.2 ∧ v2.2.2.2.length + d ≤ n)
    (fun r1 r2 => Like B r1.2.2.1 r1.2.1 r2.2.1 r2.2.2.1 ∧ r1.2.2.2 = r2.2.2.2 ∧ cJ r2.2.2.2 = r2.2.2.2 ∧ r2.2.2.2.length ≤ n) (fun d v1 v2 hq => by
    obtain ⟨i, e, b, rows⟩ := v1
    obtain ⟨j, At, E, rows2⟩ := v2
    obtain ⟨hd, hi, hj, L, hrr, hcr, hlen⟩ := hq
    simp only at hi hj L hrr hcr hlen
    subst hj; subst hi; subst hrr
    cases d with
    | zero =>
      right
      refine ⟨(((0 : Nat) : Int), e, b, rows), (((n - 0 : Nat) : Int), At, E, rows), ?_, ?_, L, rfl, hcr, by simp only at hlen ⊢; omega⟩
      · simp only [jpa_L4_step]
        rw [cond_not (by omega)]
      · simp only [rpa_L8_step, hc]
        rw [cond_not (by omega)]
    | succ d =>
      have q1 : ((d + 1 : Nat) : Int) > 0 := by omega
      have q2 : ((n - (d + 1) : Nat) : Int) < (n : Int) := by omega
      by_cases he : e = 0
      · have hE : E = 0 := by rw [← L.e]; exact he
        subst he; subst hE
        left
        have w1 : IntKind.i64.wrap (((d + 1 : Nat) : Int) - 1) = (d : Int) := by rw [wrap_in (by omega) (by omega)]; omega
        have w2 : IntKind.i64.wrap (((n - (d + 1) : Nat) : Int) + 1) = ((n - d : Nat) : Int) := by rw [wrap_in (by omega) (by omega)]; omega
        obtain ⟨x0, e0, b0, A0, E0, ⟨r0, s0⟩, ⟨m0, n0⟩, L0⟩ := small_like hB hl L
        obtain ⟨x1, e1, b1, A1, E1, ⟨r1, s1⟩, ⟨m1, n1⟩, L1⟩ := small_like hB hl L0
        obtain ⟨x2, e2, b2, A2, E2, ⟨r2, s2⟩, ⟨m2, n2⟩, L2⟩ := small_like hB hl L1
        obtain ⟨x3, e3, b3, A3, E3, ⟨r3, s3⟩, ⟨m3, n3⟩, L3⟩ := fix_like hB hl L2
        refine ⟨d, ((d : Int), e3, b3, rows ++ [[Ct.i x0, Ct.i x1, Ct.i x2, Ct.i x3]]), (((n - d : Nat) : Int), A3, E3, rows ++ [[Ct.i x0, Ct.i x1, Ct.i x2, Ct.i x3]]), rfl, ?_, ?_, by omega, rfl, rfl, L3, rfl, cJ_snoc hcr, by simp only [List.length_append, List.length_cons, List.length_nil] at hlen ⊢; omega⟩
        · simp only [jpa_L4_step, jpa_c20883189, jpa_c47053767, jpa_c47249889, jpa_c4755454, jpa_c50623285, jpa_c5883654, jpa_c60236699, jpa_c65951607, jpa_c73035710, jpa_c73656058, jpa_c80005064, jpa_c83617453, cond_dec q1, r0, s0, r1, s1, r2, s2, r3, s3, Option.isSome_some, cond_true, w1, beq_self_eq_true]
          exact ob_step (by simp only [List.length_cons, List.length_nil] at hlen ⊢; omega) rfl
        · simp only [rpa_L8_step, hc, rpa_c12864592, rpa_c16769207, rpa_c18288685, rpa_c18467662, rpa_c19140520, rpa_c19884455, rpa_c20495894, rpa_c23370630, rpa_c26482445, rpa_c2860090, rpa_c29551071, rpa_c3374069, rpa_c33745110, rpa_c34324691, rpa_c41454612, rpa_c47952215, rpa_c48851167, rpa_c50518072, rpa_c51777491, rpa_c54414002, rpa_c54657020, rpa_c62440858, rpa_c64147426, rpa_c658694, rpa_c69058906, rpa_c75046149, rpa_c79782173, rpa_c80283000, rpa_c88260628, cond_dec q2, m0, n0, m1, n1, m2, n2, m3, n3, Option.isSome_some, cond_true, w2, beq_self_eq_true]
          exact ob_step (by simp only [List.length_cons, List.length_nil] at hlen ⊢; omega) rfl
      · have hE : E ≠ 0 := by rw [← L.e]; exact he
        have b1 : (e == 0) = false := by simpa using he
        have b2 : (E == 0) = false := by simpa using hE
        right
        refine ⟨(((d + 1 : Nat) : Int), e, b, rows), (((n - (d + 1) : Nat) : Int), At, E, rows), ?_, ?_, L, rfl, hcr, by simp only at hlen ⊢; omega⟩
        · simp only [jpa_L4_step, cond_dec q1, b1, cond_false]
        · simp only [rpa_L8_step, hc, cond_dec q2, b2, cond_false]) n ((n : Int), e, b, []) (0, At, E, []) 300 300 ⟨by omega, rfl, by simp, h, rfl, rfl, by simp⟩ (by omega) (by omega)
  obtain ⟨k1, e', b', rows⟩ := r1
  obtain ⟨k2, At', E', rows2⟩ := r2
  obtain ⟨h1, h2, h3, h4⟩ := hr
  simp only at h1 h2 h3 h4
  subst h2
  exact ⟨k1, e', b', rows, k2, At', E', g1, g2, h1, h3, h4⟩
/-- Keys. -/
theorem keys_like {B : List (List Ct)} (hB : Byt (col B)) (hl : B.length ≤ 1048576) {p q c : Int} {n : Nat} (hn : n ≤ 255) (hc : (rpa_c16769207 B p q).fst = (n : Int)) {b : List (List Ct)} {e At E : Int} (h : Like B b e At E) :
    ∃ k1 e' b' rows k2 At' E', iter jtr_L0_step 300 ((n : Int), c, e, b, []) = some (k1, c, e', b', rows) ∧ iter (rpa_L6_step B p q) 300 (0, At, E, []) = some (k2, At', E', rows) ∧ Like B b' e' At' E' ∧ cK rows = rows ∧ rows.length ≤ n := by
  obtain ⟨r1, r2, g1, g2, hr⟩ := both_loops (s1 := jtr_L0_step) (s2 := rpa_L6_step B p q)
    (fun d (v1 : Int × Int × Int × List (List Ct) × List (List Ct)) (v2 : Int × Int × Int × List (List Ct)) => d ≤ n ∧ v1.1 = (d : Int) ∧ v1.2.1 = c ∧ v2.1 = ((n - d : Nat) : Int) ∧ Like B v1.2.2.2.1 v1.2.2.1 v2.2.1 v2.2.2.1 ∧ v1.2.2.2.2 = v2.2.2.2 ∧ cK v2.2.2.2 = v2.2.2.2 ∧ v2.2.2.2.length + d ≤ n)
    (fun r1 r2 => r1.2.1 = c ∧ Like B r1.2.2.2.1 r1.2.2.1 r2.2.1 r2.2.2.1 ∧ r1.2.2.2.2 = r2.2.2.2 ∧ cK r2.2.2.2 = r2.2.2.2 ∧ r2.2.2.2.length ≤ n) (fun d v1 v2 hq => by
    obtain ⟨i, i1, e, b, rows⟩ := v1
    obtain ⟨j, At, E, rows2⟩ := v2
    obtain ⟨hd, hi, hi1, hj, L, hrr, hcr, hlen⟩ := hq
    simp only at hi hi1 hj L hrr hcr hlen
    subst hj; subst hi; subst hrr; have hi2 := hi1.symm; subst hi2
    cases d with
    | zero =>
      right
      refine ⟨(((0 : Nat) : Int), c, e, b, rows), (((n - 0 : Nat) : Int), At, E, rows), ?_, ?_, rfl, L, rfl, hcr, by simp only at hlen ⊢; omega⟩
      · simp only [jtr_L0_step]
        rw [cond_not (by omega)]
      · simp only [rpa_L6_step, hc]
        rw [cond_not (by omega)]
    | succ d =>
      have q1 : ((d + 1 : Nat) : Int) > 0 := by omega
      have q2 : ((n - (d + 1) : Nat) : Int) < (n : Int) := by omega
      by_cases he : e = 0
      · have hE : E = 0 := by rw [← L.e]; exact he
        subst he; subst hE
        left
        have w1 : IntKind.i64.wrap (((d + 1 : Nat) : Int) - 1) = (d : Int) := by rw [wrap_in (by omega) (by omega)]; omega
        have w2 : IntKind.i64.wrap (((n - (d + 1) : Nat) : Int) + 1) = ((n - d : Nat) : Int) := by rw [wrap_in (by omega) (by omega)]; omega
        obtain ⟨x0, e0, b0, A0, E0, ⟨r0, s0⟩, ⟨m0, n0⟩, L0⟩ := fix_like hB hl L
        obtain ⟨x1, x2, x3, e1, b1, A1, E1, ⟨r1, s1⟩, ⟨t1, u1⟩, ⟨m1, n1⟩, L1⟩ := vec_like hB hl L0
        refine ⟨d, ((d : Int), c, e1, b1, rows ++ [[Ct.i x0, Ct.i x1, Ct.i x2, Ct.i x3]]), (((n - d : Nat) : Int), A1, E1, rows ++ [[Ct.i x0, Ct.i x1, Ct.i x2, Ct.i x3]]), rfl, ?_, ?_, by omega, rfl, rfl, rfl, L1, rfl, cK_snoc hcr, by simp only [List.length_append, List.length_cons, List.length_nil] at hlen ⊢; omega⟩
        · simp only [jtr_L0_step, jtr_c1216445, jtr_c37792205, cond_dec q1, r0, s0, r1, s1, t1, u1, Option.isSome_some, cond_true, w1, beq_self_eq_true]
          exact ob_step (by simp only [List.length_cons, List.length_nil] at hlen ⊢; omega) rfl
        · simp only [rpa_L6_step, hc, rpa_c12864592, rpa_c18288685, rpa_c18467662, rpa_c19140520, rpa_c19884455, rpa_c20495894, rpa_c23370630, rpa_c26482445, rpa_c2860090, rpa_c29551071, rpa_c3374069, rpa_c33745110, rpa_c34324691, rpa_c41454612, rpa_c47952215, rpa_c48851167, rpa_c50518072, rpa_c51777491, rpa_c54414002, rpa_c54657020, rpa_c62440858, rpa_c64147426, rpa_c658694, rpa_c69058906, rpa_c75046149, rpa_c79224799, rpa_c79782173, rpa_c80283000, rpa_c88260628, cond_dec q2, m0, n0, m1, n1, Option.isSome_some, cond_true, w2, beq_self_eq_true]
          exact ob_step (by simp only [List.length_cons, List.length_nil] at hlen ⊢; omega) rfl
      · have hE : E ≠ 0 := by rw [← L.e]; exact he
        have b1 : (e == 0) = false := by simpa using he
        have b2 : (E == 0) = false := by simpa using hE
        right
        refine ⟨(((d + 1 : Nat) : Int), c, e, b, rows), (((n - (d + 1) : Nat) : Int), At, E, rows), ?_, ?_, rfl, L, rfl, hcr, by simp only at hlen ⊢; omega⟩
        · simp only [jtr_L0_step, cond_dec q1, b1, cond_false]
        · simp only [rpa_L6_step, hc, cond_dec q2, b2, cond_false]) n ((n : Int), c, e, b, []) (0, At, E, []) 300 300 ⟨by omega, rfl, rfl, by simp, h, rfl, rfl, by simp⟩ (by omega) (by omega)
  obtain ⟨k1, i1, e', b', rows⟩ := r1
  obtain ⟨k2, At', E', rows2⟩ := r2
  obtain ⟨h0, h1, h2, h3, h4⟩ := hr
  simp only at h0 h1 h2 h3 h4
  subst h2; have h5 := h0.symm; subst h5
  exact ⟨k1, e', b', rows, k2, At', E', g1, g2, h1, h3, h4⟩
end Go.Proofs.Ytcpbiijegbbafaa
