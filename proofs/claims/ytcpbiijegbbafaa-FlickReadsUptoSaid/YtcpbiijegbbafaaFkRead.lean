/- FkM1, FkM2, FkM3, FkM4, laid together. No condition. -/
import Derived.Test.YtcpbiijegbbafaaFkW
import Derived.Test.YtcpbiijegbbafaaPkR
import Derived.Test.YtcpbiijegbbafaaMirrorB
import Derived.Test.YtcpbiijegbbafaaEngFkA
import Derived.Test.YtcpbiijegbbafaaReelB
/- Both Decodes, side by side: a byte, a blob, what stands ahead. No condition. -/
set_option linter.unusedVariables false
set_option linter.unusedSimpArgs false
namespace Go.Proofs.Ytcpbiijegbbafaa
open Go.RowKit

theorem kby_like {B b : List (List Ct)} {e At E : Int} (hB : Byt (col B)) (hl : B.length ≤ 1048576) (h : Like B b e At E) :
    ∃ v e' b' At' E', (rby_res b e = some (v, e', b') ∧ rby_v b e = (v, e', b')) ∧ (mnu_res B At E 1 = some (v, At', E') ∧ mnu_v B At E 1 = (v, At', E')) ∧ (0 ≤ v ∧ v < 256 ∧ IntKind.i64.wrap v = v) ∧ Like B b' e' At' E' := by
  obtain ⟨v, e', b', At', E', ⟨r1, r2⟩, ⟨m1, m2⟩, hv, hL⟩ := raw_like hB hl h (n := 1) (by omega)
  rw [show ((1 : Nat) : Int) = 1 from rfl] at r1 r2 m1 m2
  rw [show (256 : Int) ^ 1 = 256 from rfl] at hv
  have w : IntKind.i64.wrap v = v := wrap_in (by omega) (by omega)
  have s1 : rby_res b e = some (v, e', b') := by unfold rby_res; rw [r1, r2]; simp only [w]; rfl
  exact ⟨v, e', b', At', E', ⟨s1, by unfold rby_v; rw [s1]; rfl⟩, ⟨m1, m2⟩, ⟨hv.1, hv.2, w⟩, hL⟩
theorem Like.failK {B : List (List Ct)} {At : Int} {c : Int} (hc : c ≠ 0) : Like B [] c At c := ⟨rfl, fun h => absurd h hc, fun _ => rfl⟩
theorem kblob_like {B b : List (List Ct)} {e At E most : Int} (hB : Byt (col B)) (hl : B.length ≤ 1048576) (hm0 : 0 ≤ most) (h : Like B b e At E) :
    ∃ e' p b' At' E' q, (rbl_res b e most = some (e', p, b') ∧ rbl_v b e most = (e', p, b')) ∧ (mbl_res B At E most = some (At', E', q) ∧ mbl_v B At E most = (At', E', q)) ∧ col p = col q ∧ Like B b' e' At' E' ∧
      (e ≠ 0 → e' ≠ 0) ∧ (e' = 0 → (p.length : Int) ≤ most ∧ Byt (col p) ∧ ∀ M', most ≤ M' → rbl_res b e M' = some (0, p, b')) := by
  obtain ⟨v, e1, b1, A1, E1, ⟨r1, r2⟩, ⟨m1, m2⟩, hv, hL⟩ := raw_like hB hl h (n := 4) (by omega)
  rw [show ((4 : Nat) : Int) = 4 from rfl] at r1 r2 m1 m2
  rw [show (256 : Int) ^ 4 = 4294967296 from rfl] at hv
  have w : IntKind.i64.wrap v = v := wrap_in (by omega) (by omega)
  obtain ⟨n, rfl⟩ := Int.eq_ofNat_of_zero_le hv.1
  have hst : e ≠ 0 → e1 = e := by
    intro he
    have hb : b = [] := h.bad (by rw [← h.e]; exact he)
    have := rrw_is (b := b) (e := e) (n := 4) (by rw [hb]; exact fun y hy => absurd hy (by simp [col])) (by omega)
    rw [show ((4 : Nat) : Int) = 4 from rfl, r1] at this
    unfold rawV at this
    rw [if_pos he] at this
    simp only [Option.some.injEq, Prod.mk.injEq] at this
    exact this.2.1
  have hmost : (bif decide (most < (0 : Int)) then (0 : Int) else most) = most := by rw [cond_not (by omega)]
  have hmost2 : (if (0 : Int) > most then (0 : Int) else most) = most := by rw [if_neg (by omega)]
  have hpl : ∀ {p : List (List Ct)}, (col p = [] ∨ ∃ a, col p = ((col B).drop a).take n ∧ p.length = n) → p.length ≤ 1048576 ∧ Byt (col p) := fun {p} hp => by
    rcases hp with hp | ⟨a, hp, _⟩
    · exact ⟨by rw [← col_length, hp]; simp, by rw [hp]; exact fun y hy => absurd hy (by simp)⟩
    · exact ⟨by rw [← col_length, hp]; simp [col_length]; omega, by rw [hp]; exact (hB.drop a).take n⟩
  obtain ⟨he, hok, hbad⟩ := hL
  subst he
  have htk := rtk_is (b := b1) (e := e1) (n := n)
  by_cases hg : (n : Int) > most
  · by_cases h0 : e1 = 0
    · subst h0
      have hr : rbl_res b e most = some (8, [] ++ [], []) := by
        unfold rbl_res
        simp only [r1, r2, w, hmost2, cond_dec hg, Option.isSome_some, cond_true]
        rfl
      have hm1 := (mrw_is (At := A1) (E := 8) hl (n := n) (by omega)).1 (by omega)
      have hm : mbl_res B At E most = some (A1, 8, []) := by
        unfold mbl_res
        simp only [m1, m2, w, hmost, cond_dec hg, Option.isSome_some, cond_true, beq_self_eq_true, hm1.1, hm1.2]
      exact ⟨8, _, [], A1, 8, [], ⟨hr, by unfold rbl_v; rw [hr]; rfl⟩, ⟨hm, by unfold mbl_v; rw [hm]; rfl⟩, rfl, ⟨rfl, fun h => (by cases h), fun _ => rfl⟩, fun _ => by omega, fun h => by omega⟩
    · have hb0 : (e1 == 0) = false := by simpa using h0
      obtain ⟨e', b', p, At', E', q, ⟨t1, t2⟩, ⟨k1, k2⟩, hpq, hp, hL⟩ := take_like hl (b := b1) (e := e1) (At := A1) (E := e1) ⟨rfl, hok, hbad⟩ (n := n) (by omega)
      have := (hpl hp).1
      have hr : rbl_res b e most = some (e', [] ++ p, b') := by
        unfold rbl_res
        simp only [r1, r2, w, hmost2, cond_dec hg, Option.isSome_some, cond_true, hb0, cond_false, t1, t2]
        exact ob_step (by omega) rfl
      have hm : mbl_res B At E most = some (At', E', q) := by
        unfold mbl_res
        simp only [m1, m2, w, hmost, cond_dec hg, Option.isSome_some, cond_true, hb0, cond_false, k1, k2]
      have he' : e' = e1 := by
        rw [t1, if_pos h0] at htk
        simp only [Option.some.injEq, Prod.mk.injEq] at htk
        exact htk.1
      exact ⟨e', _, b', At', E', q, ⟨hr, by unfold rbl_v; rw [hr]; rfl⟩, ⟨hm, by unfold mbl_v; rw [hm]; rfl⟩, by rw [List.nil_append]; exact hpq, hL, fun _ => by rw [he']; exact h0, fun h => absurd (he'.symm.trans h) h0⟩
  · obtain ⟨e', b', p, At', E', q, ⟨t1, t2⟩, ⟨k1, k2⟩, hpq, hp, hL⟩ := take_like hl (b := b1) (e := e1) (At := A1) (E := e1) ⟨rfl, hok, hbad⟩ (n := n) (by omega)
    have hpp := hpl hp
    have := hpp.1
    have hr : ∀ M', most ≤ M' → rbl_res b e M' = some (e', [] ++ p, b') := fun M' hM' => by
      have hg' : ¬ (n : Int) > M' := by omega
      have hm2 : (if (0 : Int) > M' then (0 : Int) else M') = M' := by rw [if_neg (by omega)]
      unfold rbl_res
      simp only [r1, r2, w, hm2, cond_not hg', Option.isSome_some, cond_true, t1, t2]
      exact ob_step (by omega) rfl
    have hm : mbl_res B At E most = some (At', E', q) := by
      unfold mbl_res
      simp only [m1, m2, w, hmost, cond_not hg, Option.isSome_some, cond_true, k1, k2]
    have hr0 := hr most (by omega)
    refine ⟨e', _, b', At', E', q, ⟨hr0, by unfold rbl_v; rw [hr0]; rfl⟩, ⟨hm, by unfold mbl_v; rw [hm]; rfl⟩, by rw [List.nil_append]; exact hpq, hL, fun he => ?_, fun he' => ?_⟩
    · have h1 := hst he
      rw [t1, if_pos (by rw [h1]; exact he)] at htk
      simp only [Option.some.injEq, Prod.mk.injEq] at htk
      rw [htk.1, h1]; exact he
    · subst he'
      rw [List.nil_append] at hr0 ⊢
      refine ⟨?_, hpp.2, fun M' hM' => by rw [hr M' hM', List.nil_append]⟩
      by_cases h0 : e1 = 0
      · rw [t1, if_neg (by simpa using h0)] at htk
        by_cases hs : b1.length < n
        · rw [if_pos hs] at htk
          simp only [Option.some.injEq, Prod.mk.injEq] at htk
          omega
        · rw [if_neg hs] at htk
          simp only [Option.some.injEq, Prod.mk.injEq] at htk
          have hpl : (partOf b1 (0 : Int) (n : Int)).length = n := by have := part_length (l := b1) (a := 0) (b := n) (by omega); simpa using this
          rw [htk.2.2, hpl]; omega
      · rw [t1, if_pos h0] at htk
        simp only [Option.some.injEq, Prod.mk.injEq] at htk
        exact absurd htk.1.symm h0
theorem kres_of {V R : Type} [Inhabited R] {s : V → Option (V ⊕ R)} {n : Nat} {v : V} {r : R} (h : iter s n v = some r) : (iter s n v).isSome = true ∧ loopRes s n v = r := by unfold loopRes; rw [h]; exact ⟨rfl, rfl⟩
/-- The four letters that stand ahead. -/
theorem kmag_step {B b : List (List Ct)} {e At E : Int} (hB : Byt (col B)) (hl : B.length ≤ 1048576) (h : Like B b e At E) {k : Nat} (hk : k < 4) :
    ∃ e' b' At' E', fhd_L0_step ((k : Int), e, b) = some (.inl (((k + 1 : Nat) : Int), e', b')) ∧ rfd_L0_step B ((k : Int), At, E) = some (.inl (((k + 1 : Nat) : Int), At', E')) ∧ Like B b' e' At' E' := by
  have L4 : (([[Ct.i (70 : Int)], [Ct.i (76 : Int)], [Ct.i (75 : Int)], [Ct.i (49 : Int)]] : List (List Ct)).length : Int) = 4 := rfl
  have hx : ∃ c : Int, (rd [[Ct.i (70 : Int)], [Ct.i (76 : Int)], [Ct.i (75 : Int)], [Ct.i (49 : Int)]] k 0).int = c ∧ 0 ≤ c ∧ c < 256 := by
    have c : k = 0 ∨ k = 1 ∨ k = 2 ∨ k = 3 := by omega
    rcases c with rfl | rfl | rfl | rfl
    · exact ⟨70, rfl, by omega, by omega⟩
    · exact ⟨76, rfl, by omega, by omega⟩
    · exact ⟨75, rfl, by omega, by omega⟩
    · exact ⟨49, rfl, by omega, by omega⟩
  obtain ⟨c, hc, c0, c1⟩ := hx
  have q1 : (k : Int) < 4 := by omega
  have q2 : (0 : Int) ≤ (k : Int) ∧ (k : Int) < 4 := by omega
  have q3 : decide ((0 : Int) ≤ (k : Int) ∧ (k : Int) < 4) = true := decide_eq_true q2
  have ws : IntKind.i64.wrap ((k : Int) + 1) = ((k + 1 : Nat) : Int) := wrap_succ (by omega)
  have wc : IntKind.i64.wrap c = c := wrap_in (by omega) (by omega)
  obtain ⟨v, e', b', At', E', ⟨r1, r2⟩, ⟨m1, m2⟩, ⟨v0, v1, w⟩, hL⟩ := kby_like hB hl h
  have w8 : IntKind.u8.wrap v = v := wrap_u8 v0 v1
  by_cases he : e' = 0
  · have hE : E' = 0 := by rw [← hL.e]; exact he
    subst he; subst hE
    by_cases hv : v = c
    · subst hv
      exact ⟨0, b', At', 0, by simp only [fhd_L0_step, L4, cond_dec q1, cond_dec q2, r1, r2, Option.isSome_some, cond_true, Int.toNat_natCast, hc, wc, ws, bne_self_eq_false, cond_false, beq_self_eq_true],
        by simp only [rfd_L0_step, rfd_c29551071, L4, cond_dec q1, q3, m1, m2, Option.isSome_some, cond_true, Int.toNat_natCast, hc, w8, ws, bne_self_eq_false, cond_false, beq_self_eq_true], hL⟩
    · have hn : (v != c) = true := by simpa using hv
      exact ⟨20, [], At', 20, by simp only [fhd_L0_step, L4, cond_dec q1, cond_dec q2, r1, r2, Option.isSome_some, cond_true, Int.toNat_natCast, hc, wc, ws, hn, beq_self_eq_true],
        by simp only [rfd_L0_step, rfd_c29551071, L4, cond_dec q1, q3, m1, m2, Option.isSome_some, cond_true, Int.toNat_natCast, hc, w8, ws, hn, beq_self_eq_true], .failK (by omega)⟩
  · have hE : E' ≠ 0 := by rw [← hL.e]; exact he
    have b1 : (e' == 0) = false := by simpa using he
    have b2 : (E' == 0) = false := by simpa using hE
    exact ⟨e', b', At', E', by simp only [fhd_L0_step, L4, cond_dec q1, cond_dec q2, r1, r2, Option.isSome_some, cond_true, ws, b1, cond_false],
      by simp only [rfd_L0_step, rfd_c29551071, L4, cond_dec q1, m1, m2, Option.isSome_some, cond_true, ws, b2, cond_false], hL⟩
theorem kmagic {B : List (List Ct)} (hB : Byt (col B)) (hl : B.length ≤ 1048576) :
    ∃ e b At E, fhd_L0_p B 0 = true ∧ fhd_L0_v B 0 = (4, e, b) ∧ rfd_L0_p B = true ∧ rfd_L0_v B = (4, At, E) ∧ Like B b e At E := by
  have L0 : Like B B 0 0 0 := ⟨rfl, fun _ => ⟨0, rfl, by omega, by simp⟩, fun h => absurd rfl h⟩
  obtain ⟨e1, b1, A1, E1, f1, g1, L1⟩ := kmag_step hB hl L0 (k := 0) (by omega)
  obtain ⟨e2, b2, A2, E2, f2, g2, L2⟩ := kmag_step hB hl L1 (k := 1) (by omega)
  obtain ⟨e3, b3, A3, E3, f3, g3, L3⟩ := kmag_step hB hl L2 (k := 2) (by omega)
  obtain ⟨e4, b4, A4, E4, f4, g4, L4⟩ := kmag_step hB hl L3 (k := 3) (by omega)
  have f1' : fhd_L0_step ((0 : Int), (0 : Int), B) = some (.inl (((0 + 1 : Nat) : Int), e1, b1)) := f1
  have g1' : rfd_L0_step B ((0 : Int), (0 : Int), (0 : Int)) = some (.inl (((0 + 1 : Nat) : Int), A1, E1)) := g1
  have q : ¬ ((4 : Int) < 4) := by omega
  have f5 : fhd_L0_step (((3 + 1 : Nat) : Int), e4, b4) = some (.inr (4, e4, b4)) := rfl
  have g5 : rfd_L0_step B (((3 + 1 : Nat) : Int), A4, E4) = some (.inr (4, A4, E4)) := rfl
  have hF : iter fhd_L0_step 5 ((0 : Int), (0 : Int), B) = some (4, e4, b4) := by rw [iter_inl f1', iter_inl f2, iter_inl f3, iter_inl f4, iter_inr f5]
  have hG : iter (rfd_L0_step B) 5 ((0 : Int), (0 : Int), (0 : Int)) = some (4, A4, E4) := by rw [iter_inl g1', iter_inl g2, iter_inl g3, iter_inl g4, iter_inr g5]
  exact ⟨e4, b4, A4, E4, by unfold fhd_L0_p; rw [hF]; rfl, by unfold fhd_L0_v loopRes; rw [hF]; rfl, by unfold rfd_L0_p; rw [hG]; rfl, by unfold rfd_L0_v loopRes; rw [hG]; rfl, L4⟩
/-- The header. -/
theorem khead {B : List (List Ct)} (hB : Byt (col B)) (hl : B.length ≤ 1048576) :
    ∃ n e w h b At, fhd_res B 0 = some (n, e, w, h, b) ∧ fhd_v B 0 = (n, e, w, h, b) ∧ rfd_L0_p B = true ∧ (mnu_res B (rfd_L0_v B).snd.fst (rfd_L0_v B).snd.snd (1 : Int)).isSome = true ∧ (mnu_res B (rfd_c27821676 B).snd.fst (rfd_c27821676 B).snd.snd (1 : Int)).isSome = true ∧ (mnu_res B (rfd_c4781424 B).snd.fst (rfd_c4781424 B).snd.snd (1 : Int)).isSome = true ∧
      (rfd_c27821676 B).fst = w ∧ (rfd_c4781424 B).fst = h ∧ (rfd_c11257624 B).fst = n ∧ (rfd_c11257624 B).snd.fst = At ∧
      (bif bif (rfd_c11257624 B).snd.snd == (0 : Int) then bif !rfd_c42098037 B then true else bif decide (IntKind.i64.wrap (rfd_c11257624 B).fst < (1 : Int)) then true else decide (IntKind.i64.wrap (rfd_c11257624 B).fst > (32 : Int)) else false then (21 : Int) else (rfd_c11257624 B).snd.snd) = e ∧
      Like B b e At e ∧ (0 ≤ w ∧ w < 256) ∧ (0 ≤ h ∧ h < 256) ∧ (0 ≤ n ∧ n < 256) ∧ (e = 0 → (1 ≤ w ∧ w ≤ 64) ∧ (1 ≤ h ∧ h ≤ 64) ∧ 1 ≤ n ∧ n ≤ 32) := by
  obtain ⟨e0, b0, A0, E0, p1, p2, p3, p4, L0⟩ := kmagic hB hl
  obtain ⟨w, e1, b1, A1, E1, ⟨r1, s1⟩, ⟨m1, n1⟩, ⟨w0, w1, ww⟩, L1⟩ := kby_like hB hl L0
  obtain ⟨h, e2, b2, A2, E2, ⟨r2, s2⟩, ⟨m2, n2⟩, ⟨h0, h1, wh⟩, L2⟩ := kby_like hB hl L1
  obtain ⟨n, e3, b3, A3, E3, ⟨r3, s3⟩, ⟨m3, n3⟩, ⟨n0, n1', wn⟩, L3⟩ := kby_like hB hl L2
  have c1 : rfd_c27821676 B = (w, A1, E1) := by unfold rfd_c27821676; rw [p4]; exact n1
  have c2 : rfd_c4781424 B = (h, A2, E2) := by unfold rfd_c4781424; rw [c1]; exact n2
  have c3 : rfd_c11257624 B = (n, A3, E3) := by unfold rfd_c11257624; rw [c2]; exact n3
  have fin : ∀ e b, fhd_res B 0 = some (n, e, w, h, b) → (bif bif E3 == (0 : Int) then bif !rfd_c42098037 B then true else bif decide (n < (1 : Int)) then true else decide (n > (32 : Int)) else false then (21 : Int) else E3) = e → Like B b e A3 e → (e = 0 → (1 ≤ w ∧ w ≤ 64) ∧ (1 ≤ h ∧ h ≤ 64) ∧ 1 ≤ n ∧ n ≤ 32) →
      ∃ n e w h b At, fhd_res B 0 = some (n, e, w, h, b) ∧ fhd_v B 0 = (n, e, w, h, b) ∧ rfd_L0_p B = true ∧ (mnu_res B (rfd_L0_v B).snd.fst (rfd_L0_v B).snd.snd (1 : Int)).isSome = true ∧ (mnu_res B (rfd_c27821676 B).snd.fst (rfd_c27821676 B).snd.snd (1 : Int)).isSome = true ∧ (mnu_res B (rfd_c4781424 B).snd.fst (rfd_c4781424 B).snd.snd (1 : Int)).isSome = true ∧
      (rfd_c27821676 B).fst = w ∧ (rfd_c4781424 B).fst = h ∧ (rfd_c11257624 B).fst = n ∧ (rfd_c11257624 B).snd.fst = At ∧
      (bif bif (rfd_c11257624 B).snd.snd == (0 : Int) then bif !rfd_c42098037 B then true else bif decide (IntKind.i64.wrap (rfd_c11257624 B).fst < (1 : Int)) then true else decide (IntKind.i64.wrap (rfd_c11257624 B).fst > (32 : Int)) else false then (21 : Int) else (rfd_c11257624 B).snd.snd) = e ∧
      Like B b e At e ∧ (0 ≤ w ∧ w < 256) ∧ (0 ≤ h ∧ h < 256) ∧ (0 ≤ n ∧ n < 256) ∧ (e = 0 → (1 ≤ w ∧ w ≤ 64) ∧ (1 ≤ h ∧ h ≤ 64) ∧ 1 ≤ n ∧ n ≤ 32) := by
    intro e b hr he hL hd
    refine ⟨n, e, w, h, b, A3, hr, by unfold fhd_v; rw [hr]; rfl, p3, by rw [p4, m1]; rfl, by rw [c1, m2]; rfl, by rw [c2, m3]; rfl, by rw [c1], by rw [c2], by rw [c3], by rw [c3], ?_, hL, ⟨w0, w1⟩, ⟨h0, h1⟩, ⟨n0, n1'⟩, hd⟩
    rw [c3]
    simp only [wn]
    exact he
  have hz : rfd_c42098037 B = rsz_v w h := by unfold rfd_c42098037; rw [c1, c2]; simp only [ww, wh]
  by_cases he : e3 = 0
  · have hE : E3 = 0 := by rw [← L3.e]; exact he
    subst he; subst hE
    have bad : (fhd_res B 0 = some (n, 21, w, h, [])) → (bif !rsz_v w h then true else bif decide (n < (1 : Int)) then true else decide (n > (32 : Int))) = true → _ := fun hr hb => fin 21 [] hr (by rw [hz, beq_self_eq_true, cond_true, hb]; rfl) (.failK (by omega)) (fun h => by omega)
    by_cases a1 : w ≥ 1
    · by_cases a2 : w ≤ 64
      · by_cases a3 : h ≥ 1
        · by_cases a4 : h ≤ 64
          · have d4 : decide (h ≤ 64) = true := decide_eq_true a4
            have hs : rsz_v w h = true := by simp only [rsz_v, cond_dec a1, cond_dec a2, cond_dec a3, d4]
            by_cases a5 : n < 1
            · refine bad ?_ (by rw [hs, cond_dec a5]; rfl)
              simp only [fhd_res, fhd_c90579284, fhd_c76998915, fhd_c87334124, p1, p2, r1, s1, r2, s2, r3, s3, Option.isSome_some, cond_true, beq_self_eq_true, cond_dec a1, cond_dec a2, cond_dec a3, d4, Bool.not_true, cond_false, cond_dec a5]
            · by_cases a6 : n > 32
              · refine bad ?_ (by rw [hs, cond_not a5, decide_eq_true a6]; rfl)
                simp only [fhd_res, fhd_c90579284, fhd_c76998915, fhd_c87334124, p1, p2, r1, s1, r2, s2, r3, s3, Option.isSome_some, cond_true, beq_self_eq_true, cond_dec a1, cond_dec a2, cond_dec a3, d4, Bool.not_true, cond_false, cond_not a5, cond_dec a6]
              · refine fin 0 b3 ?_ ?_ L3 (fun _ => by omega)
                · simp only [fhd_res, fhd_c90579284, fhd_c76998915, fhd_c87334124, p1, p2, r1, s1, r2, s2, r3, s3, Option.isSome_some, cond_true, beq_self_eq_true, cond_dec a1, cond_dec a2, cond_dec a3, d4, Bool.not_true, cond_false, cond_not a5, cond_not a6]
                · rw [hz, hs, cond_not a5, decide_eq_false a6]; rfl
          · have d4 : decide (h ≤ 64) = false := decide_eq_false a4
            refine bad ?_ (by simp only [rsz_v, cond_dec a1, cond_dec a2, cond_dec a3, d4]; rfl)
            simp only [fhd_res, fhd_c90579284, fhd_c76998915, fhd_c87334124, p1, p2, r1, s1, r2, s2, r3, s3, Option.isSome_some, cond_true, beq_self_eq_true, cond_dec a1, cond_dec a2, cond_dec a3, d4, Bool.not_false]
        · refine bad ?_ (by simp only [rsz_v, cond_dec a1, cond_dec a2, cond_not a3]; rfl)
          simp only [fhd_res, fhd_c90579284, fhd_c76998915, fhd_c87334124, p1, p2, r1, s1, r2, s2, r3, s3, Option.isSome_some, cond_true, beq_self_eq_true, cond_dec a1, cond_dec a2, cond_not a3]
      · refine bad ?_ (by simp only [rsz_v, cond_dec a1, cond_not a2]; rfl)
        simp only [fhd_res, fhd_c90579284, fhd_c76998915, fhd_c87334124, p1, p2, r1, s1, r2, s2, r3, s3, Option.isSome_some, cond_true, beq_self_eq_true, cond_dec a1, cond_not a2]
    · refine bad ?_ (by simp only [rsz_v, cond_not a1]; rfl)
      simp only [fhd_res, fhd_c90579284, fhd_c76998915, fhd_c87334124, p1, p2, r1, s1, r2, s2, r3, s3, Option.isSome_some, cond_true, beq_self_eq_true, cond_not a1]
  · have hE : E3 ≠ 0 := by rw [← L3.e]; exact he
    have b1 : (e3 == 0) = false := by simpa using he
    have b2 : (E3 == 0) = false := by simpa using hE
    refine fin e3 b3 ?_ ?_ (by have := L3; rw [← L3.e] at this; exact this) (fun h => absurd h he)
    · simp only [fhd_res, fhd_c90579284, fhd_c76998915, fhd_c87334124, p1, p2, r1, s1, r2, s2, r3, s3, Option.isSome_some, cond_true, b1, cond_false]
    · rw [b2]; exact L3.e.symm
end Go.Proofs.Ytcpbiijegbbafaa

/- Both Decodes, side by side: frames. No condition. -/
set_option linter.unusedVariables false
set_option linter.unusedSimpArgs false
namespace Go.Proofs.Ytcpbiijegbbafaa
open Go.RowKit

theorem sprd_le {most : Int} : ∀ (f : Nat) (out b r : List Int), (out.length : Int) ≤ most → Byt b → sprd most f out b = .inl r → (r.length : Int) ≤ most
  | 0, out, b, r, h, _, hs => by simp only [sprd, Sum.inl.injEq] at hs; subst hs; exact h
  | f + 1, out, [], r, h, _, hs => by simp only [sprd, Sum.inl.injEq] at hs; subst hs; exact h
  | f + 1, out, x :: t, r, h, hB, hs => by
    have hx := hB x List.mem_cons_self
    have ht : Byt t := fun y hy => hB y (List.mem_cons_of_mem _ hy)
    simp only [sprd] at hs
    split at hs
    · split at hs
      · cases hs
      · split at hs
        · cases hs
        · refine sprd_le f _ _ r ?_ (ht.drop 1) hs
          rw [List.length_append, List.length_replicate]; omega
    · split at hs
      · cases hs
      · split at hs
        · cases hs
        · refine sprd_le f _ _ r ?_ (ht.drop _) hs
          rw [List.length_append, List.length_take]; omega
/-- Both spread alike. -/
theorem kspread {p q : List (List Ct)} {s : Nat} (hpq : col p = col q) (hl : p.length ≤ 50000) (hB : Byt (col p)) (hs : s ≤ 50000) :
    ∃ e pp qq, psp_res p (s : Int) = some (e, pp) ∧ psp_v p (s : Int) = (e, pp) ∧ (rsp_res q (s : Int)).isSome = true ∧ rsp_v q (s : Int) = (e, qq) ∧ col pp = col qq ∧ (e = 0 → pp.length ≤ s) := by
  have lq : q.length = p.length := by rw [← col_length, ← hpq, col_length]
  obtain ⟨h1, h2, h3⟩ := psp_is (x0 := p) (x1 := (s : Int)) (by omega) (by omega) hl hB
  obtain ⟨g1, g2, g3⟩ := rsp_is (x0 := q) (x1 := (s : Int)) (by omega) (by omega) (by omega) (by rw [← hpq]; exact hB)
  obtain ⟨v, hv⟩ := Option.isSome_iff_exists.1 h1
  have ev : psp_v p (s : Int) = v := by unfold psp_v; rw [hv]; rfl
  rw [ev] at h2 h3
  rw [lq, ← hpq] at g2 g3
  obtain ⟨e, pp⟩ := v
  simp only at h2 h3
  refine ⟨e, pp, (rsp_v q (s : Int)).2, hv, ev, g1, ?_, by rw [h3, g3], fun he => ?_⟩
  · rw [h2, ← g2]
  · cases hr : sprd (s : Int) p.length [] (col p) with
    | inl r =>
      rw [hr] at h3
      have := sprd_le p.length [] (col p) r (by simp) hB hr
      simp only [sprO] at h3
      have l : pp.length = r.length := by rw [← col_length, h3]
      omega
    | inr k =>
      rw [hr] at h3
      simp only [sprO] at h3
      have l : pp.length = 0 := by rw [← col_length, h3]; rfl
      omega
/-! ### A frame's bytes, as the program reads them -/
section
variable {b b1 b3 p pp w : List (List Ct)} {v e1 e3 pe : Int} {s : Nat} (h0 : 1 ≤ s) (h1 : s ≤ 20000)
include h0 h1
theorem kwst : wst_res (s : Int) = some ((s + (s + 127) / 128 : Nat) : Int) ∧ IntKind.i64.wrap (wst_v (s : Int) + 2) = ((s + (s + 127) / 128 : Nat) : Int) + 2 := by
  have w1 := wst_is h0 (by omega : s ≤ 50000)
  have w2 : wst_v (s : Int) = ((s + (s + 127) / 128 : Nat) : Int) := by unfold wst_v; rw [w1]; rfl
  exact ⟨w1, by rw [w2]; exact wrap_in (by omega) (by omega)⟩
theorem fbn_bad (r1 : rby_res b 0 = some (v, 0, b1)) (r2 : rby_v b 0 = (v, 0, b1)) (hv : v > 1 ∨ v = 1) : fbn_res b 0 (s : Int) = some (10, [], []) := by
  obtain ⟨w1, w2⟩ := kwst h0 h1
  have k0 : ∀ M : Int, ¬ ((0 : Int) > if (0 : Int) > M then (0 : Int) else M) := fun M => by split <;> omega
  have kz : (0 + 0 ≤ 9223372036854775807 ∧ 0 * 1 ≤ 140737488355328) := by omega
  by_cases hg : v > 1
  · simp only [fbn_res, r1, r2, w1, Option.isSome_some, cond_true, beq_self_eq_true, cond_dec hg, cond_not (k0 _), cond_dec kz]
  · obtain rfl : v = 1 := by omega
    simp only [fbn_res, r1, r2, w1, Option.isSome_some, cond_true, beq_self_eq_true, cond_not hg, cond_not (k0 _), cond_dec kz]
theorem fbn_err (r1 : rby_res b 0 = some (v, e1, b1)) (r2 : rby_v b 0 = (v, e1, b1)) (hv : e1 ≠ 0 ∨ v = 0) (k1 : rbl_res b1 e1 (((s + (s + 127) / 128 : Nat) : Int) + 2) = some (e3, p, b3)) (k2 : rbl_v b1 e1 (((s + (s + 127) / 128 : Nat) : Int) + 2) = (e3, p, b3)) (he : e3 ≠ 0) : fbn_res b 0 (s : Int) = some (e3, b3, []) := by
  obtain ⟨w1, w2⟩ := kwst h0 h1
  have hb : (e3 != 0) = true := by simpa using he
  by_cases hz : e1 = 0
  · subst hz
    obtain rfl : v = 0 := by omega
    have hg : ¬ ((0 : Int) > 1) := by omega
    have hn : ((0 : Int) == 1) = false := rfl
    simp only [fbn_res, fbn_c63710022, r1, r2, w1, w2, k1, k2, hb, hn, Option.isSome_some, cond_true, beq_self_eq_true, cond_not hg, cond_false]
  · have hb1 : (e1 == 0) = false := by simpa using hz
    simp only [fbn_res, fbn_c63710022, r1, r2, w1, w2, k1, k2, hb, hb1, Option.isSome_some, cond_true, cond_false]
theorem fbn_spr (r1 : rby_res b 0 = some (0, 0, b1)) (r2 : rby_v b 0 = (0, 0, b1)) (k1 : rbl_res b1 0 (((s + (s + 127) / 128 : Nat) : Int) + 2) = some (0, p, b3)) (k2 : rbl_v b1 0 (((s + (s + 127) / 128 : Nat) : Int) + 2) = (0, p, b3))
    (m1 : psp_res p (s : Int) = some (pe, pp)) (m2 : psp_v p (s : Int) = (pe, pp)) : fbn_res b 0 (s : Int) = some (if pe ≠ 0 then (pe, [], []) else if pp.length < s then (9, [], []) else (0, b3, pp)) := by
  obtain ⟨w1, w2⟩ := kwst h0 h1
  have hg : ¬ ((0 : Int) > 1) := by omega
  have hn : ((0 : Int) == 1) = false := rfl
  by_cases hp : pe = 0
  · subst hp
    by_cases hs : pp.length < s
    · have c : ((pp.length : Int) < (s : Int)) := by omega
      rw [if_neg (by simp), if_pos hs]
      simp only [fbn_res, fbn_c63710022, fbn_c71456111, r1, r2, w1, w2, k1, k2, m1, m2, hn, Option.isSome_some, cond_true, beq_self_eq_true, bne_self_eq_false, cond_not hg, cond_dec c, cond_false]
    · have c : ¬ ((pp.length : Int) < (s : Int)) := by omega
      rw [if_neg (by simp), if_neg hs]
      simp only [fbn_res, fbn_c63710022, fbn_c71456111, r1, r2, w1, w2, k1, k2, m1, m2, hn, Option.isSome_some, cond_true, beq_self_eq_true, bne_self_eq_false, cond_not hg, cond_not c, cond_false]
  · have hb : (pe != 0) = true := by simpa using hp
    have hb1 : (pe == 0) = false := by simpa using hp
    rw [if_pos hp]
    simp only [fbn_res, fbn_c63710022, fbn_c71456111, r1, r2, w1, w2, k1, k2, m1, m2, hn, hb, hb1, Option.isSome_some, cond_true, beq_self_eq_true, bne_self_eq_false, cond_not hg, cond_false]
theorem fbg_bad (hw : 0 < w.length) (r1 : rby_res b 0 = some (v, 0, b1)) (r2 : rby_v b 0 = (v, 0, b1)) (hg : v > 1) : fbg_res b 0 w (s : Int) = some (10, [], []) := by
  obtain ⟨w1, w2⟩ := kwst h0 h1
  have k0 : ∀ M : Int, ¬ ((0 : Int) > if (0 : Int) > M then (0 : Int) else M) := fun M => by split <;> omega
  have kz : (0 + 0 ≤ 9223372036854775807 ∧ 0 * 1 ≤ 140737488355328) := by omega
  simp only [fbg_res, r1, r2, w1, Option.isSome_some, cond_true, beq_self_eq_true, cond_dec hg, cond_not (k0 _), cond_dec kz]
theorem fbg_err (hw : 0 < w.length) (r1 : rby_res b 0 = some (v, e1, b1)) (r2 : rby_v b 0 = (v, e1, b1)) (hv : e1 ≠ 0 ∨ v = 0 ∨ v = 1) (k1 : rbl_res b1 e1 (((s + (s + 127) / 128 : Nat) : Int) + 2) = some (e3, p, b3)) (k2 : rbl_v b1 e1 (((s + (s + 127) / 128 : Nat) : Int) + 2) = (e3, p, b3)) (he : e3 ≠ 0) : fbg_res b 0 w (s : Int) = some (e3, b3, []) := by
  obtain ⟨w1, w2⟩ := kwst h0 h1
  have hb : (e3 != 0) = true := by simpa using he
  by_cases hz : e1 = 0
  · subst hz
    have hg : ¬ (v > 1) := by omega
    rcases hv.resolve_left (by simp) with rfl | rfl
    · have hn : ((0 : Int) == 1) = false := rfl
      simp only [fbg_res, fbg_c63710022, r1, r2, w1, w2, k1, k2, hb, hn, Option.isSome_some, cond_true, beq_self_eq_true, cond_not hg, cond_false, cond_dec hw]
    · simp only [fbg_res, fbg_c63710022, r1, r2, w1, w2, k1, k2, hb, Option.isSome_some, cond_true, beq_self_eq_true, cond_not hg, cond_false, cond_dec hw]
  · have hb1 : (e1 == 0) = false := by simpa using hz
    simp only [fbg_res, fbg_c63710022, r1, r2, w1, w2, k1, k2, hb, hb1, Option.isSome_some, cond_true, cond_false]
theorem fbg_spr (hw : w.length = s) (hv : v = 0 ∨ v = 1) (r1 : rby_res b 0 = some (v, 0, b1)) (r2 : rby_v b 0 = (v, 0, b1)) (k1 : rbl_res b1 0 (((s + (s + 127) / 128 : Nat) : Int) + 2) = some (0, p, b3)) (k2 : rbl_v b1 0 (((s + (s + 127) / 128 : Nat) : Int) + 2) = (0, p, b3))
    (m1 : psp_res p (s : Int) = some (pe, pp)) (m2 : psp_v p (s : Int) = (pe, pp)) (hl : pe = 0 → pp.length ≤ s) : fbg_res b 0 w (s : Int) = some (if pe ≠ 0 then (pe, [], []) else if pp.length < s then (9, [], []) else (0, b3, if v = 1 then acrS pp w pp.length else pp)) := by
  obtain ⟨w1, w2⟩ := kwst h0 h1
  have hg : ¬ (v > 1) := by omega
  have hw0 : 0 < w.length := by omega
  by_cases hp : pe = 0
  · subst hp
    by_cases hs : pp.length < s
    · have c : ((pp.length : Int) < (s : Int)) := by omega
      rw [if_neg (by simp), if_pos hs]
      rcases hv with rfl | rfl
      · have hn : ((0 : Int) == 1) = false := rfl
        simp only [fbg_res, fbg_c63710022, fbg_c14148982, r1, r2, w1, w2, k1, k2, m1, m2, hn, Option.isSome_some, cond_true, beq_self_eq_true, bne_self_eq_false, cond_not hg, cond_dec c, cond_dec hw0, cond_false]
      · simp only [fbg_res, fbg_c63710022, fbg_c14148982, r1, r2, w1, w2, k1, k2, m1, m2, Option.isSome_some, cond_true, beq_self_eq_true, bne_self_eq_false, cond_not hg, cond_dec c, cond_dec hw0, cond_false]
    · have c : ¬ ((pp.length : Int) < (s : Int)) := by omega
      have hl' := hl rfl
      have a1 : acr_res pp w = some (acrS pp w pp.length) := acr_is (by omega) (by omega)
      have a2 : acr_v pp w = acrS pp w pp.length := by unfold acr_v; rw [a1]; rfl
      rw [if_neg (by simp), if_neg hs]
      rcases hv with rfl | rfl
      · have hn : ((0 : Int) == 1) = false := rfl
        rw [if_neg (by omega)]
        simp only [fbg_res, fbg_c63710022, fbg_c14148982, r1, r2, w1, w2, k1, k2, m1, m2, hn, Option.isSome_some, cond_true, beq_self_eq_true, bne_self_eq_false, cond_not hg, cond_not c, cond_dec hw0, cond_false]
      · rw [if_pos rfl]
        simp only [fbg_res, fbg_c63710022, fbg_c14148982, fbg_c48755799, r1, r2, w1, w2, k1, k2, m1, m2, a1, a2, Option.isSome_some, cond_true, beq_self_eq_true, bne_self_eq_false, cond_not hg, cond_not c, cond_dec hw0, cond_false]
  · have hb : (pe != 0) = true := by simpa using hp
    have hb1 : (pe == 0) = false := by simpa using hp
    rw [if_pos hp]
    rcases hv with rfl | rfl
    · have hn : ((0 : Int) == 1) = false := rfl
      simp only [fbg_res, fbg_c63710022, fbg_c14148982, r1, r2, w1, w2, k1, k2, m1, m2, hn, hb, hb1, Option.isSome_some, cond_true, beq_self_eq_true, bne_self_eq_false, cond_not hg, cond_dec hw0, cond_false]
    · simp only [fbg_res, fbg_c63710022, fbg_c14148982, r1, r2, w1, w2, k1, k2, m1, m2, hb, hb1, Option.isSome_some, cond_true, beq_self_eq_true, bne_self_eq_false, cond_not hg, cond_dec hw0, cond_false]
end
/-! ### The document's -/
theorem rfd_dots (step : (Int × List (List Ct)) → Option ((Int × List (List Ct)) ⊕ (Int × List (List Ct)))) {q : List (List Ct)} {m : Nat} (hm : m ≤ 10000) (hl : q.length = 3 * m)
    (hs : ∀ (wi0 : Int) (wl0 : List (List Ct)), step (wi0, wl0) = bif (decide (wi0 < (m : Int))) then (bif (decide ((0 : Int) ≤ IntKind.i64.wrap ((3 : Int) * wi0) ∧ IntKind.i64.wrap ((3 : Int) * wi0) < (↑q.length : Int))) then bif (decide ((0 : Int) ≤ IntKind.i64.wrap (IntKind.i64.wrap ((3 : Int) * wi0) + (1 : Int)) ∧ IntKind.i64.wrap (IntKind.i64.wrap ((3 : Int) * wi0) + (1 : Int)) < (↑q.length : Int))) then bif (decide ((0 : Int) ≤ IntKind.i64.wrap (IntKind.i64.wrap ((3 : Int) * wi0) + (2 : Int)) ∧ IntKind.i64.wrap (IntKind.i64.wrap ((3 : Int) * wi0) + (2 : Int)) < (↑q.length : Int))) then
      bif (decide (wl0.length + [[Ct.i (rd q (IntKind.i64.wrap ((3 : Int) * wi0)).toNat 0).int, Ct.i (rd q (IntKind.i64.wrap (IntKind.i64.wrap ((3 : Int) * wi0) + (1 : Int))).toNat 0).int, Ct.i (rd q (IntKind.i64.wrap (IntKind.i64.wrap ((3 : Int) * wi0) + (2 : Int))).toNat 0).int]].length ≤ 9223372036854775807 ∧ (wl0.length + [[Ct.i (rd q (IntKind.i64.wrap ((3 : Int) * wi0)).toNat 0).int, Ct.i (rd q (IntKind.i64.wrap (IntKind.i64.wrap ((3 : Int) * wi0) + (1 : Int))).toNat 0).int, Ct.i (rd q (IntKind.i64.wrap (IntKind.i64.wrap ((3 : Int) * wi0) + (2 : Int))).toNat 0).int]].length) * 3 ≤ 140737488355328)) then
        some (.inl (IntKind.i64.wrap (wi0 + (1 : Int)), wl0 ++ [[Ct.i (rd q (IntKind.i64.wrap ((3 : Int) * wi0)).toNat 0).int, Ct.i (rd q (IntKind.i64.wrap (IntKind.i64.wrap ((3 : Int) * wi0) + (1 : Int))).toNat 0).int, Ct.i (rd q (IntKind.i64.wrap (IntKind.i64.wrap ((3 : Int) * wi0) + (2 : Int))).toNat 0).int]])) else none else none else none else none) else some (.inr (wi0, wl0))) :
    iter step 20000 ((0 : Int), []) = some ((m : Int), ctR q m) := by
  refine iter_run (fun k => ((k : Int), ctR q k)) (n := m) rfl (fun k hk => ?_) ?_ (by omega)
  · have q0 : (k : Int) < (m : Int) := by omega
    have w0 : IntKind.i64.wrap ((3 : Int) * (k : Int)) = ((3 * k : Nat) : Int) := by rw [wrap_in (by omega) (by omega)]; omega
    have w1 : IntKind.i64.wrap (((3 * k : Nat) : Int) + 1) = ((3 * k + 1 : Nat) : Int) := wrap_succ (by omega)
    have w2 : IntKind.i64.wrap (((3 * k : Nat) : Int) + 2) = ((3 * k + 2 : Nat) : Int) := by rw [wrap_in (by omega) (by omega)]; omega
    have a0 : (0 : Int) ≤ ((3 * k : Nat) : Int) ∧ ((3 * k : Nat) : Int) < (q.length : Int) := by omega
    have a1 : (0 : Int) ≤ ((3 * k + 1 : Nat) : Int) ∧ ((3 * k + 1 : Nat) : Int) < (q.length : Int) := by omega
    have a2 : (0 : Int) ≤ ((3 * k + 2 : Nat) : Int) ∧ ((3 * k + 2 : Nat) : Int) < (q.length : Int) := by omega
    have lc : (ctR q k).length = k := ctR_length
    simp only [hs, cond_dec q0, w0, w1, w2, cond_dec a0, cond_dec a1, cond_dec a2, Int.toNat_natCast]
    rw [wrap_succ (by omega), ctR_succ]
    exact ob_step (by simp only [List.length_cons, List.length_nil, lc]; omega) rfl
  · have q0 : ¬ ((m : Int) < (m : Int)) := by omega
    simp only [hs, cond_not q0]
theorem flR_ctR {q : List (List Ct)} : ∀ {m : Nat}, 3 * m ≤ q.length → col (flR (ctR q m)) = (col q).take (3 * m) := by
  intro m
  induction m with
  | zero => intro _; simp [ctR, flR, col]
  | succ m ih =>
    intro h
    have e : flR (ctR q (m + 1)) = flR (ctR q m) ++ [[Ct.i (rd q (3 * m) 0).int], [Ct.i (rd q (3 * m + 1) 0).int], [Ct.i (rd q (3 * m + 2) 0).int]] := by
      rw [ctR_succ]; unfold flR; rw [List.flatMap_append]; rfl
    have lq : (col q).length = q.length := col_length
    rw [e, col_app, ih (by omega), show 3 * (m + 1) = 3 * m + 1 + 1 + 1 by omega, List.take_add_one, List.take_add_one, List.take_add_one]
    rw [List.getElem?_eq_getElem (show 3 * m < (col q).length by omega), List.getElem?_eq_getElem (show 3 * m + 1 < (col q).length by omega), List.getElem?_eq_getElem (show 3 * m + 1 + 1 < (col q).length by omega)]
    simp only [Option.toList_some, List.append_assoc]
    have g : ∀ i (h : i < (col q).length), (rd q i 0).int = (col q)[i] := fun i h => by rw [rd_col, List.getD_eq_getElem?_getD, List.getElem?_eq_getElem h]; rfl
    congr 1
    rw [← g (3 * m) (by omega), ← g (3 * m + 1) (by omega), ← g (3 * m + 1 + 1) (by omega)]
    rfl
theorem acrS_congr {a a' b b' : List (List Ct)} (ha : col a = col a') (hb : col b = col b') : col (acrS a b a.length) = col (acrS a' b' a'.length) := by rw [acrS_col, acrS_col, ha, hb]
end Go.Proofs.Ytcpbiijegbbafaa

/- Both Decodes, side by side: a round. No condition. -/
set_option linter.unusedVariables false
set_option linter.unusedSimpArgs false
namespace Go.Proofs.Ytcpbiijegbbafaa
open Go.RowKit

/-- What is known of the header: w, h, n, the dots m of a picture. -/
structure Hdr (B : List (List Ct)) (w h : Int) (N m : Nat) (hb : List (List Ct)) : Prop where
  pc : fde_c6100797 B = ((N : Int), 0, w, h, hb)
  pw : (rfd_c27821676 B).fst = w
  ph : (rfd_c4781424 B).fst = h
  pn : (rfd_c11257624 B).fst = (N : Int)
  dw : 1 ≤ w ∧ w ≤ 64
  dh : 1 ≤ h ∧ h ≤ 64
  dn : 1 ≤ N ∧ N ≤ 32
  pm : (m : Int) = w * h
theorem Hdr.mle {B : List (List Ct)} {w h : Int} {N m : Nat} {hb : List (List Ct)} (H : Hdr B w h N m hb) : 1 ≤ m ∧ m ≤ 4096 := by
  have := mul64 ⟨H.dw, H.dh⟩
  have := H.pm
  omega
structure HdrW (B : List (List Ct)) (w h : Int) (N m : Nat) : Prop where
  ww : IntKind.i64.wrap (rfd_c27821676 B).fst = w
  wh : IntKind.i64.wrap (rfd_c4781424 B).fst = h
  wn : IntKind.i64.wrap (rfd_c11257624 B).fst = (N : Int)
  wm : IntKind.i64.wrap (w * h) = (m : Int)
  ws : IntKind.i64.wrap (IntKind.i64.wrap ((3 : Int) * w) * h) = ((3 * m : Nat) : Int)
  wp : IntKind.i64.wrap ((3 : Int) * (m : Int)) = ((3 * m : Nat) : Int)
  wl : IntKind.i64.wrap (IntKind.i64.wrap (((3 * m : Nat) : Int) + IntKind.i64.wrap ((IntKind.i64.wrap (((3 * m : Nat) : Int) + (127 : Int))).tdiv (128 : Int))) + (2 : Int)) = ((3 * m + (3 * m + 127) / 128 : Nat) : Int) + 2
theorem Hdr.wraps {B : List (List Ct)} {w h : Int} {N m : Nat} {hb : List (List Ct)} (H : Hdr B w h N m hb) : HdrW B w h N m := by
  obtain ⟨hc, h1, h2, h3, h4, h5, h6, h7⟩ := H
  have hm := mul64 ⟨h4, h5⟩
  have e3 : (3 : Int) * w * h = ((3 * m : Nat) : Int) := by rw [Int.mul_assoc, ← h7]; omega
  refine ⟨by rw [h1, wrap_in (by omega) (by omega)], by rw [h2, wrap_in (by omega) (by omega)], by rw [h3, wrap_in (by omega) (by omega)], by rw [← h7, wrap_in (by omega) (by omega)], ?_, by rw [wrap_in (by omega) (by omega)]; omega, ?_⟩
  · rw [wrap_in (n := (3 : Int) * w) (by omega) (by omega), e3, wrap_in (by omega) (by omega)]
  · rw [wrap_in (n := ((3 * m : Nat) : Int) + 127) (by omega) (by omega), Int.tdiv_eq_ediv_of_nonneg (by omega), wrap_in (n := (((3 * m : Nat) : Int) + 127) / 128) (by omega) (by omega), wrap_in (n := ((3 * m : Nat) : Int) + (((3 * m : Nat) : Int) + 127) / 128) (by omega) (by omega), wrap_in (by omega) (by omega)]
    omega
/-- What the pictures are that were read: each with the dots of a picture. -/
def Pics (m : Nat) (outs : List (List Ct)) : Prop := ∀ j, j < outs.length → (rd outs j 2).rows.length = m
/-- The document's round. -/
theorem rfd_round {B : List (List Ct)} {w h : Int} {N m : Nat} {hb b : List (List Ct)} (hB : Byt (col B)) (hl : B.length ≤ 1048576) (H : Hdr B w h N m hb) {i : Nat} {At : Int} {outs kinds : List (List Ct)} (hi : i < N) (L : Like B b 0 At 0)
    (ho : outs.length = i) (hk : kinds.length = i) {was : List (List Ct)} (hw : 0 < i → was.length = 3 * m ∧ (rd outs (i - 1) 2).rows = ctR was m) :
    ∃ e b' now, (i = 0 → fbn_res b 0 ((3 * m : Nat) : Int) = some (e, b', now)) ∧ (0 < i → fbg_res b 0 was ((3 * m : Nat) : Int) = some (e, b', now)) ∧
      ((e ≠ 0 ∧ now = [] ∧ ∃ At', rfd_L2_step B ((i : Int), At, 0, outs, kinds) = some (.inr ((i : Int), At', e, outs, kinds)) ∧ Like B b' e At' e) ∨
       (e = 0 ∧ now.length = 3 * m ∧ ∃ At' v, rfd_L2_step B ((i : Int), At, 0, outs, kinds) = some (.inl (((i + 1 : Nat) : Int), At', 0, outs ++ [[Ct.i w, Ct.i h, Ct.l (ctR now m)]], kinds ++ [[Ct.i v]])) ∧ Like B b' 0 At' 0 ∧
         ∃ b1 p, rby_res b 0 = some (v, 0, b1) ∧ rby_v b 0 = (v, 0, b1) ∧ rbl_res b1 0 (262144 : Int) = some (0, p, b'))) := by
  obtain ⟨ww, wh, wn, wm, ws, wp, wl⟩ := H.wraps
  have hm := H.mle
  have hdn := H.dn
  have s0 : 1 ≤ 3 * m := by omega
  have s1 : 3 * m ≤ 20000 := by omega
  obtain ⟨v, e1, b1, A1, E1, ⟨r1, r2⟩, ⟨m1, m2⟩, ⟨v0, v1, wv⟩, L1⟩ := kby_like hB hl L
  have he1 := L1.e
  subst he1
  have q0 : (i : Int) < (N : Int) := by omega
  have gd : (bif decide ((i : Int) < IntKind.i64.wrap (rfd_c11257624 B).fst) then (0 : Int) == (0 : Int) else false) = true := by rw [wn, cond_dec q0]; rfl
  have gdt : (bif decide ((i : Int) < IntKind.i64.wrap (rfd_c11257624 B).fst) then true else false) = true := by rw [wn, cond_dec q0]
  have d01 : decide ((0 : Int) > 1) = false := rfl
  have d11 : decide ((1 : Int) > 1) = false := rfl
  have ca : rfd_c29551071 B At 0 = (v, A1, e1) := m2
  have M0 : (0 : Int) ≤ ((3 * m + (3 * m + 127) / 128 : Nat) : Int) + 2 := by omega
  by_cases hz : e1 = 0
  · subst hz
    by_cases bad : v > 1 ∨ (v = 1 ∧ i = 0)
    · -- a kind that may not be
      obtain ⟨e3, p, b3, A3, E3, q, _, ⟨k3, k4⟩, _, L3, ne, _⟩ := kblob_like (e := 10) (E := 10) hB hl M0 (Like.failK (B := B) (At := A1) (c := 10) (by omega))
      have hbd : (bif (0 : Int) == (0 : Int) then bif decide (v > (1 : Int)) then true else bif v == (1 : Int) then (i : Int) == (0 : Int) else false else false) = true := by
        rcases bad with hg | ⟨rfl, rfl⟩
        · rw [cond_dec hg]; rfl
        · rfl
      -- the document's reader tells no other error
      have hE : E3 = 10 := by
        have hr := rrw_is (b := []) (e := 10) (n := 4) (fun y hy => absurd hy (by simp [col])) (by omega)
        have := (mrw_is (At := A1) (E := 10) hl (n := 4) (by omega)).1 (by omega)
        have hn : mnu_res B A1 10 (4 : Int) = some (0, A1, 10) ∧ mnu_v B A1 10 (4 : Int) = (0, A1, 10) := mnu_is (p := []) this.1 this.2 (fun y hy => absurd hy (by simp [col])) (by simp)
        have t0 := (mrw_is (At := A1) (E := 10) hl (n := 0) (by omega)).1 (by omega)
        rw [show ((0 : Nat) : Int) = 0 from rfl] at t0
        have w0 : IntKind.i64.wrap (0 : Int) = 0 := rfl
        have hmost : (bif decide ((((3 * m + (3 * m + 127) / 128 : Nat) : Int) + 2) < (0 : Int)) then (0 : Int) else (((3 * m + (3 * m + 127) / 128 : Nat) : Int) + 2)) = (((3 * m + (3 * m + 127) / 128 : Nat) : Int) + 2) := by rw [cond_not (by omega)]
        have hng : ¬ ((0 : Int) > (((3 * m + (3 * m + 127) / 128 : Nat) : Int) + 2)) := by omega
        have hm' : mbl_res B A1 10 (((3 * m + (3 * m + 127) / 128 : Nat) : Int) + 2) = some (A1, 10, []) := by
          unfold mbl_res
          simp only [hn.1, hn.2, w0, hmost, cond_not hng, Option.isSome_some, cond_true, t0.1, t0.2]
        rw [hm'] at k3
        simp only [Option.some.injEq, Prod.mk.injEq] at k3
        exact k3.2.1.symm
      subst hE
      refine ⟨10, [], [], fun h0 => ?_, fun h0 => ?_, .inl ⟨by omega, rfl, A3, ?_, Like.failK (by omega)⟩⟩
      · exact fbn_bad s0 s1 r1 r2 (by omega)
      · have hwl := hw h0
        exact fbg_bad s0 s1 (by omega) r1 r2 (by omega)
      · have cb : rfd_c80495330 B (i : Int) At 0 = (A3, 10, q) := by
          unfold rfd_c80495330
          simp only [ca, ww, wh, ws, wl, wv, hbd, cond_true]
          exact k4
        have hb10 : ((10 : Int) != 0) = true := rfl
        simp only [rfd_L2_step, gd, m1, ca, cb, ww, wh, ws, wl, wv, hbd, k3, hb10, Option.isSome_some, cond_true]
    · have hv : v = 0 ∨ v = 1 := by omega
      have hbd : (bif (0 : Int) == (0 : Int) then bif decide (v > (1 : Int)) then true else bif v == (1 : Int) then (i : Int) == (0 : Int) else false else false) = false := by
        rw [beq_self_eq_true, cond_true, cond_not (by omega)]
        rcases hv with rfl | rfl
        · rfl
        · have : ((i : Int) == 0) = false := by rw [beq_eq_false_iff_ne]; omega
          rw [this]; rfl
      have hbt : (bif decide (v > (1 : Int)) then true else bif v == (1 : Int) then (i : Int) == (0 : Int) else false) = false := by rw [beq_self_eq_true, cond_true] at hbd; exact hbd
      have hv0 : i = 0 → v = 0 := fun h => by omega
      obtain ⟨e3, p, b3, A3, E3, q, ⟨k1, k2⟩, ⟨k3, k4⟩, hpq, L3, _, hok⟩ := kblob_like hB hl M0 L1
      have he3 := L3.e
      subst he3
      have cb : rfd_c80495330 B (i : Int) At 0 = (A3, e3, q) := by
        unfold rfd_c80495330
        simp only [ca, ww, wh, ws, wl, wv, hbd, cond_false]
        exact k4
      by_cases h3 : e3 = 0
      · subst h3
        obtain ⟨pl, pB, pm⟩ := hok rfl
        obtain ⟨pe, pp, qq, t1, t2, t3, t4, t5, t6⟩ := kspread (s := 3 * m) hpq (by omega) pB (by omega)
        have cc : rfd_c9174425 B (i : Int) At 0 = (pe, qq) := by
          unfold rfd_c9174425
          simp only [cb, ww, wh, ws]
          exact t4
        have lqq : qq.length = pp.length := by rw [← col_length, ← t5, col_length]
        have hn : i = 0 → fbn_res b 0 ((3 * m : Nat) : Int) = some (if pe ≠ 0 then (pe, [], []) else if pp.length < 3 * m then (9, [], []) else (0, b3, pp)) := fun h0 => by
          obtain rfl := hv0 h0
          exact fbn_spr s0 s1 r1 r2 k1 k2 t1 t2
        have hg : 0 < i → fbg_res b 0 was ((3 * m : Nat) : Int) = some (if pe ≠ 0 then (pe, [], []) else if pp.length < 3 * m then (9, [], []) else (0, b3, if v = 1 then acrS pp was pp.length else pp)) := fun h0 =>
          fbg_spr s0 s1 (hw h0).1 hv r1 r2 k1 k2 t1 t2 t6
        by_cases hp : pe = 0
        · subst hp
          by_cases hs : pp.length < 3 * m
          · -- too few bytes
            rw [if_neg (by simp), if_pos hs] at hn hg
            have c : ((qq.length : Int) < ((3 * m : Nat) : Int)) := by omega
            refine ⟨9, [], [], hn, hg, .inl ⟨by omega, rfl, A3, ?_, Like.failK (by omega)⟩⟩
            have hb9 : ((9 : Int) != 0) = true := rfl
            simp only [rfd_L2_step, gd, gdt, hbt, d01, d11, m1, ca, cb, cc, ww, wh, ws, wl, wv, hbd, k3, t3, decide_eq_true c, hb9, Option.isSome_some, cond_true, cond_false, beq_self_eq_true, bne_self_eq_false]
          · -- a picture
            rw [if_neg (by simp), if_neg hs] at hn hg
            have c : ¬ ((qq.length : Int) < ((3 * m : Nat) : Int)) := by omega
            have lp : pp.length = 3 * m := by have := t6 rfl; omega
            have w1 : IntKind.i64.wrap ((i : Int) + 1) = ((i + 1 : Nat) : Int) := wrap_succ (by omega)
            have wv1 : IntKind.i64.wrap (rfd_c29551071 B At 0).fst = v := by rw [ca]; exact wv
            have rest : rbl_res b1 0 (262144 : Int) = some (0, p, b3) := pm 262144 (by omega)
            rcases hv with rfl | rfl
            · -- as it is
              have hdots : rfd_L4b_p B (i : Int) At 0 = true ∧ (rfd_L4b_v B (i : Int) At 0).snd = ctR qq m := by
                have it := rfd_dots (rfd_L4b_step B (i : Int) At 0) (q := qq) (m := m) (by omega) (by omega) (fun wi0 wl0 => by simp only [rfd_L4b_step, cc, ww, wh, wm])
                obtain ⟨p1, p2⟩ := kres_of it
                exact ⟨p1, by have : rfd_L4b_v B (i : Int) At 0 = _ := p2; rw [this]⟩
              have ed : ctR qq m = ctR pp m := ctR_col t5.symm
              have hn1 : ((0 : Int) == 1) = false := rfl
              refine ⟨0, b3, pp, hn, fun h0 => by have := hg h0; rw [if_neg (by omega)] at this; exact this, .inr ⟨rfl, lp, A3, 0, ?_, L3, b1, p, r1, r2, rest⟩⟩
              simp only [rfd_L2_step, gd, gdt, hbt, d01, d11, m1, ca, cb, cc, ww, wh, ws, wl, wv, w1, hbd, k3, t3, hn1, decide_eq_false c, hdots.1, hdots.2, ed, Option.isSome_some, cond_true, cond_false, beq_self_eq_true, bne_self_eq_false]
              refine ob_step (by simp only [List.length_cons, List.length_nil, ho]; omega) ?_
              exact ob_step (by simp only [List.length_cons, List.length_nil, hk]; omega) rfl
            · -- against the one ahead
              have i0 : 0 < i := by omega
              have hi0 : ((i : Int) == 0) = false := by rw [beq_eq_false_iff_ne]; omega
              obtain ⟨wl1, wl2⟩ := hw i0
              have lct : (ctR was m).length = m := ctR_length
              have wi : IntKind.i64.wrap ((i : Int) - 1) = ((i - 1 : Nat) : Int) := by rw [wrap_in (by omega) (by omega)]; omega
              have qi : (0 : Int) ≤ ((i - 1 : Nat) : Int) ∧ ((i - 1 : Nat) : Int) < (outs.length : Int) := by omega
              have f1 : rfla_res (ctR was m) = some (flR (ctR was m)) := rfla_is (by omega)
              have f2 : rfla_v (ctR was m) = flR (ctR was m) := rfla_v_is (by omega)
              have lfl : (flR (ctR was m)).length = 3 * m := by rw [flR_length, lct]
              have cf : rfd_c16836577 (i : Int) outs = flR (ctR was m) := by unfold rfd_c16836577; rw [wi, Int.toNat_natCast, wl2]; exact f2
              have x1 : rxo_res qq (flR (ctR was m)) = some (rxR qq (flR (ctR was m)) qq.length) := rxo_is (by omega) (by omega)
              have x2 : rxo_v qq (flR (ctR was m)) = acrS qq (flR (ctR was m)) qq.length := rxo_v_is (by omega) (by omega)
              have cx : rfd_c25763583 B (i : Int) At 0 outs = acrS qq (flR (ctR was m)) qq.length := by unfold rfd_c25763583; rw [cc, cf]; exact x2
              have hcol : col (acrS qq (flR (ctR was m)) qq.length) = col (acrS pp was pp.length) := acrS_congr t5.symm (by rw [flR_ctR (by omega), List.take_of_length_le (by rw [col_length]; omega)])
              have hdots : rfd_L4a_p B (i : Int) At 0 outs = true ∧ (rfd_L4a_v B (i : Int) At 0 outs).snd = ctR (acrS qq (flR (ctR was m)) qq.length) m := by
                have it := rfd_dots (rfd_L4a_step B (i : Int) At 0 outs) (q := acrS qq (flR (ctR was m)) qq.length) (m := m) (by omega) (by rw [acrS_length]; omega) (fun wi0 wl0 => by simp only [rfd_L4a_step, cx, ww, wh, wm])
                obtain ⟨p1, p2⟩ := kres_of it
                exact ⟨p1, by have : rfd_L4a_v B (i : Int) At 0 outs = _ := p2; rw [this]⟩
              have ed : ctR (acrS qq (flR (ctR was m)) qq.length) m = ctR (acrS pp was pp.length) m := ctR_col hcol
              refine ⟨0, b3, acrS pp was pp.length, fun h => by omega, fun h0 => by have := hg h0; rw [if_pos rfl] at this; exact this, .inr ⟨rfl, by rw [acrS_length]; exact lp, A3, 1, ?_, L3, b1, p, r1, r2, rest⟩⟩
              simp only [rfd_L2_step, gd, gdt, hbt, d01, d11, hi0, m1, ca, cb, cc, cf, ww, wh, ws, wl, wv, w1, wi, hbd, k3, t3, Int.toNat_natCast, wl2, f1, x1, cond_dec qi, decide_eq_false c, hdots.1, hdots.2, ed, Option.isSome_some, cond_true, cond_false, beq_self_eq_true, bne_self_eq_false]
              refine ob_step (by simp only [List.length_cons, List.length_nil, ho]; omega) ?_
              exact ob_step (by simp only [List.length_cons, List.length_nil, hk]; omega) rfl
        · -- what can't be spread
          rw [if_pos hp] at hn hg
          have hb : (pe != 0) = true := by simpa using hp
          have hb1 : (pe == 0) = false := by simpa using hp
          refine ⟨pe, [], [], hn, hg, .inl ⟨hp, rfl, A3, ?_, Like.failK hp⟩⟩
          simp only [rfd_L2_step, gd, gdt, hbt, d01, d11, m1, ca, cb, cc, ww, wh, ws, wl, wv, hbd, k3, t3, hb, hb1, Option.isSome_some, cond_true, cond_false, beq_self_eq_true, bne_self_eq_false]
      · -- no blob
        have hb3 : (e3 != 0) = true := by simpa using h3
        refine ⟨e3, b3, [], fun h0 => fbn_err s0 s1 r1 r2 (.inr (hv0 h0)) k1 k2 h3, fun h0 => fbg_err s0 s1 (by have := hw h0; omega) r1 r2 (.inr hv) k1 k2 h3, .inl ⟨h3, rfl, A3, ?_, L3⟩⟩
        simp only [rfd_L2_step, gd, m1, ca, cb, ww, wh, ws, wl, wv, hbd, k3, hb3, Option.isSome_some, cond_true, cond_false]
  · -- no kind
    have hz1 : (e1 == 0) = false := by simpa using hz
    have hbd : (bif e1 == (0 : Int) then bif decide (v > (1 : Int)) then true else bif v == (1 : Int) then (i : Int) == (0 : Int) else false else false) = false := by rw [hz1]; rfl
    obtain ⟨e3, p, b3, A3, E3, q, ⟨k1, k2⟩, ⟨k3, k4⟩, hpq, L3, ne, _⟩ := kblob_like hB hl M0 L1
    have he3 := L3.e
    subst he3
    have h3 := ne hz
    have hb3 : (e3 != 0) = true := by simpa using h3
    have cb : rfd_c80495330 B (i : Int) At 0 = (A3, e3, q) := by
      unfold rfd_c80495330
      simp only [ca, ww, wh, ws, wl, wv, hbd, cond_false]
      exact k4
    refine ⟨e3, b3, [], fun h0 => fbn_err s0 s1 r1 r2 (.inl hz) k1 k2 h3, fun h0 => fbg_err s0 s1 (by have := hw h0; omega) r1 r2 (.inl hz) k1 k2 h3, .inl ⟨h3, rfl, A3, ?_, L3⟩⟩
    simp only [rfd_L2_step, gd, m1, ca, cb, ww, wh, ws, wl, wv, hbd, k3, hb3, Option.isSome_some, cond_true, cond_false]
end Go.Proofs.Ytcpbiijegbbafaa

/- Both Decodes, side by side: as a whole. No condition. -/
set_option linter.unusedVariables false
set_option linter.unusedSimpArgs false
namespace Go.Proofs.Ytcpbiijegbbafaa
open Go.RowKit

theorem fde_none {B w' : List (List Ct)} {w h : Int} {N m k : Nat} {hb b' now : List (List Ct)} {e : Int} (H : Hdr B w h N m hb) (hr : fbn_res hb 0 ((3 * m : Nat) : Int) = some (e, b', now)) (hn : now.length = 3 * k) (hk : k ≤ 10000) :
    fde_L0_step B none = some (.inl (some (((N - 1 : Nat) : Int), e, b', now, [] ++ [[Ct.i w, Ct.i h, Ct.l (ctR now k)]]))) := by
  obtain ⟨ww, wh, wn, wm, ws, wp, wl⟩ := H.wraps
  have hc := H.pc
  have hdn := H.dn
  have c5 : fde_c56502520 B = (e, b', now) := by simp only [fde_c56502520, hc, wm, wp]; unfold fbn_v; rw [hr]; rfl
  obtain ⟨a1, a2⟩ := fdeA_is (x0 := B) (q := now) (M := k) (by rw [c5]) hn hk
  have q : (N : Int) > 0 := by omega
  have w1 : IntKind.i64.wrap ((N : Int) - 1) = ((N - 1 : Nat) : Int) := by rw [wrap_in (by omega) (by omega)]; omega
  simp only [fde_L0_step, hc, wm, wp, hr, c5, a1, a2, w1, cond_dec q, Option.isSome_some, cond_true, beq_self_eq_true]
  exact ob_step (by simp only [List.length_cons, List.length_nil]; omega) rfl
theorem fde_some {B : List (List Ct)} {w h : Int} {N m k d : Nat} {hb b was outs b' now : List (List Ct)} {e : Int} (H : Hdr B w h N m hb) (hd : d < N) (ho : outs.length ≤ N) (hr : fbg_res b 0 was ((3 * m : Nat) : Int) = some (e, b', now)) (hn : now.length = 3 * k) (hk : k ≤ 10000) :
    fde_L0_step B (some (((d + 1 : Nat) : Int), 0, b, was, outs)) = some (.inl (some ((d : Int), e, b', now, outs ++ [[Ct.i w, Ct.i h, Ct.l (ctR now k)]]))) := by
  obtain ⟨ww, wh, wn, wm, ws, wp, wl⟩ := H.wraps
  have hc := H.pc
  have hdn := H.dn
  have c5 : fde_c97296055 B 0 b was = (e, b', now) := by simp only [fde_c97296055, hc, wm, wp]; unfold fbg_v; rw [hr]; rfl
  obtain ⟨a1, a2⟩ := fdeB_is (x0 := B) (vi1 := 0) (vl0 := b) (vl1 := was) (q := now) (M := k) (by rw [c5]) hn hk
  have q : ((d + 1 : Nat) : Int) > 0 := by omega
  have w1 : IntKind.i64.wrap (((d + 1 : Nat) : Int) - 1) = (d : Int) := by rw [wrap_in (by omega) (by omega)]; omega
  simp only [fde_L0_step, hc, wm, wp, hr, c5, a1, a2, w1, cond_dec q, Option.isSome_some, cond_true, beq_self_eq_true]
  exact ob_step (by simp only [List.length_cons, List.length_nil]; omega) rfl
theorem fde_stop {B b was outs : List (List Ct)} {x e : Int} (he : e ≠ 0) : fde_L0_step B (some (x, e, b, was, outs)) = some (.inr (x, e, b, outs, was)) := by
  have hb : (e == 0) = false := by simpa using he
  by_cases q : x > 0
  · simp only [fde_L0_step, cond_dec q, hb, cond_false]
  · simp only [fde_L0_step, cond_not q]
theorem fk_both {B : List (List Ct)} {w h : Int} {N m : Nat} {hb : List (List Ct)} (hB : Byt (col B)) (hl : B.length ≤ 1048576) (H : Hdr B w h N m hb) : ∀ (d i f1 f2 f3 : Nat) (b was outs kinds : List (List Ct)) (At : Int) (v1 : Option (Int × Int × List (List Ct) × List (List Ct) × List (List Ct))),
    i + d = N → d + 1 < f1 → d < f2 → d < f3 → ((i = 0 ∧ v1 = none ∧ b = hb ∧ outs = []) ∨ (0 < i ∧ v1 = some ((d : Int), 0, b, was, outs))) → Like B b 0 At 0 → outs.length = i → kinds.length = i → Pics m outs → (0 < i → was.length = 3 * m ∧ (rd outs (i - 1) 2).rows = ctR was m) →
    ∃ x e b' P w' iE At' P2 K, iter (fde_L0_step B) f1 v1 = some (x, e, b', P, w') ∧ iter (rfd_L2_step B) f2 ((i : Int), At, 0, outs, kinds) = some (iE, At', e, P2, K) ∧ Like B b' e At' e ∧
      (e = 0 → P = P2 ∧ P.length = N ∧ K.length = N ∧ Pics m P ∧ ∃ b'', iter (fki_L0_step B) f3 ((i : Int), 0, b, kinds) = some ((N : Int), 0, b'', K)) := by
  have hdn := H.dn
  have hm := H.mle
  have hc := H.pc
  have hkc : fki_c6100797 B = ((N : Int), 0, w, h, hb) := hc
  obtain ⟨ww, wh, wn, wm, ws, wp, wl⟩ := H.wraps
  intro d
  induction d with
  | zero =>
    intro i f1 f2 f3 b was outs kinds At v1 hi h1 h2 h3 hv L ho hk hP hw
    obtain ⟨f1, rfl⟩ : ∃ k, f1 = k + 1 := ⟨f1 - 1, by omega⟩
    obtain ⟨f2, rfl⟩ : ∃ k, f2 = k + 1 := ⟨f2 - 1, by omega⟩
    obtain ⟨f3, rfl⟩ : ∃ k, f3 = k + 1 := ⟨f3 - 1, by omega⟩
    obtain rfl : i = N := by omega
    obtain ⟨_, rfl⟩ := hv.resolve_left (by omega)
    have q : ¬ (((0 : Nat) : Int) > 0) := by omega
    have q2 : ¬ ((i : Int) < (i : Int)) := by omega
    refine ⟨((0 : Nat) : Int), 0, b, outs, was, (i : Int), At, outs, kinds, iter_inr (by simp only [fde_L0_step, cond_not q]), iter_inr ?_, L, fun _ => ⟨rfl, ho, hk, hP, b, iter_inr (by simp only [fki_L0_step, hkc, cond_not q2])⟩⟩
    have g : (bif (decide ((i : Int) < IntKind.i64.wrap (rfd_c11257624 B).fst)) then (0 : Int) == (0 : Int) else false) = false := by rw [wn, cond_not q2]
    simp only [rfd_L2_step, g, cond_false]
  | succ d ih =>
    intro i f1 f2 f3 b was outs kinds At v1 hi h1 h2 h3 hv L ho hk hP hw
    obtain ⟨f1, rfl⟩ : ∃ k, f1 = k + 1 := ⟨f1 - 1, by omega⟩
    obtain ⟨f2, rfl⟩ : ∃ k, f2 = k + 1 := ⟨f2 - 1, by omega⟩
    obtain ⟨f3, rfl⟩ : ∃ k, f3 = k + 1 := ⟨f3 - 1, by omega⟩
    obtain ⟨e, b', now, r0, rg, res⟩ := rfd_round hB hl H (i := i) (by omega) L ho hk hw
    have prog : ∀ k, now.length = 3 * k → k ≤ 10000 → fde_L0_step B v1 = some (.inl (some ((d : Int), e, b', now, outs ++ [[Ct.i w, Ct.i h, Ct.l (ctR now k)]]))) := by
      intro k hn hk'
      rcases hv with ⟨rfl, rfl, rfl, rfl⟩ | ⟨hi0, rfl⟩
      · rw [fde_none (w' := []) H (r0 rfl) hn hk', show N - 1 = d by omega]
      · exact fde_some H (by omega) (by omega) (rg hi0) hn hk'
    rcases res with ⟨he, rfl, At', s2, L'⟩ | ⟨rfl, hn, At', v, s2, L', b1, p, y1, y2, y3⟩
    · obtain ⟨f1, rfl⟩ : ∃ k, f1 = k + 1 := ⟨f1 - 1, by omega⟩
      refine ⟨_, e, b', _, _, (i : Int), At', outs, kinds, by rw [iter_inl (prog 0 rfl (by omega)), iter_inr (fde_stop he)], iter_inr s2, L', fun h => absurd h he⟩
    · have s1 := prog m hn (by omega)
      have ho' : (outs ++ [[Ct.i w, Ct.i h, Ct.l (ctR now m)]]).length = i + 1 := by simp [ho]
      have last : (rd (outs ++ [[Ct.i w, Ct.i h, Ct.l (ctR now m)]]) i 2) = Ct.l (ctR now m) := by rw [rd_app_last ho.symm]; rfl
      obtain ⟨x, e2, b2, P, w2, iE, A2, P2, K, t1, t2, t3, t4⟩ := ih (i + 1) f1 f2 f3 b' now (outs ++ [[Ct.i w, Ct.i h, Ct.l (ctR now m)]]) (kinds ++ [[Ct.i v]]) At' (some ((d : Int), 0, b', now, outs ++ [[Ct.i w, Ct.i h, Ct.l (ctR now m)]])) (by omega) (by omega) (by omega) (by omega) (.inr ⟨by omega, rfl⟩) L' ho' (by simp [hk]) (fun j hj => by
        rcases Nat.lt_or_ge j i with h | h
        · rw [rd_app_left (by omega)]; exact hP j (by omega)
        · obtain rfl : j = i := by omega
          rw [last]; exact ctR_length) (fun _ => ⟨hn, by rw [show i + 1 - 1 = i from rfl, last]; rfl⟩)
      refine ⟨x, e2, b2, P, w2, iE, A2, P2, K, by rw [iter_inl s1]; exact t1, by rw [iter_inl s2]; exact t2, t3, fun h => ?_⟩
      obtain ⟨u1, u2, u3, u4, b'', u5⟩ := t4 h
      refine ⟨u1, u2, u3, u4, b'', ?_⟩
      have q : (i : Int) < (N : Int) := by omega
      have s3 : fki_L0_step B ((i : Int), 0, b, kinds) = some (.inl (((i + 1 : Nat) : Int), 0, b', kinds ++ [[Ct.i v]])) := by
        have y4 : rbl_v b1 0 (262144 : Int) = (0, p, b') := by unfold rbl_v; rw [y3]; rfl
        simp only [fki_L0_step, fki_c21420306, hkc, cond_dec q, y1, y2, y3, y4, Option.isSome_some, cond_true]
        rw [wrap_succ (by omega)]
        exact ob_step (by simp only [List.length_cons, List.length_nil, hk]; omega) rfl
      rw [iter_inl s3]; exact u5
/-- Of any bytes: the same error, the same pictures, the same kinds. -/
theorem fk_reads {B : List (List Ct)} (hB : Byt (col B)) (hl : B.length ≤ 1048576) : ∃ e P K, fde_res B = some (e, P) ∧ rfd_res B = some (e, P, K) ∧ fki_res B = some (e, K) ∧ P.length ≤ 32 ∧ K.length ≤ 32 ∧ ∃ m, m ≤ 4096 ∧ Pics m P := by
  obtain ⟨n, e, w, h, hb, At, f1, f2, d1, d2, d3, d4, d5, d6, d7, d8, d9, L, hw, hh, hn, hd⟩ := khead hB hl
  have q0 : rrd_res B = some ([] ++ B) := by unfold rrd_res; exact ob_step (by omega) rfl
  have q1 : rrd_v B = B := by unfold rrd_v; rw [q0]; rfl
  have hc : fde_c6100797 B = (n, e, w, h, hb) := by unfold fde_c6100797; rw [q1]; exact f2
  have hkc : fki_c6100797 B = (n, e, w, h, hb) := hc
  have nil : Pics 0 [] := fun j hj => absurd hj (by simp)
  -- once there is an error
  have bad : ∀ x e' b' P w' iE A' P2 K, e' ≠ 0 → Like B b' e' A' e' → iter (fde_L0_step B) 300 none = some (x, e', b', P, w') → iter (rfd_L2_step B) 300 (0, At, e, [], []) = some (iE, A', e', P2, K) → ∃ e P K, fde_res B = some (e, P) ∧ rfd_res B = some (e, P, K) ∧ fki_res B = some (e, K) ∧ P.length ≤ 32 ∧ K.length ≤ 32 ∧ ∃ m, m ≤ 4096 ∧ Pics m P := by
    intro x e' b' P w' iE A' P2 K he' L' t1 t2
    have hbn : (e' != 0) = true := by simpa using he'
    have hbq : (e' == 0) = false := by simpa using he'
    have pv : fde_L0_p B = true := by unfold fde_L0_p; rw [t1]; rfl
    have vv : fde_L0_v B = (x, e', b', P, w') := by unfold fde_L0_v loopRes; rw [t1]; rfl
    have pv2 : rfd_L2_p B = true := by unfold rfd_L2_p; rw [d8, d9, t2]; rfl
    have vv2 : rfd_L2_v B = (iE, A', e', P2, K) := by unfold rfd_L2_v loopRes; rw [d8, d9, t2]; rfl
    have g1 : fde_res B = some (e', []) := by
      have c : ¬ ((b'.length : Int) > 0) := by rw [L'.bad he']; simp
      simp only [fde_res, q0, q1, f1, pv, vv, Option.isSome_some, cond_true, cond_not c, hbn]
    have g2 : fde_v B = (e', []) := by unfold fde_v; rw [g1]; rfl
    refine ⟨e', [], [], g1, ?_, ?_, by simp, by simp, 0, by omega, nil⟩
    · simp only [rfd_res, d1, d2, d3, d4, pv2, vv2, cond_true, hbn]
    · simp only [fki_res, g1, g2, Option.isSome_some, cond_true, hbn]
  by_cases he : e = 0
  · subst he
    obtain ⟨hdw, hdh, hdn⟩ := hd rfl
    have hm := mul64 ⟨hdw, hdh⟩
    obtain ⟨N, rfl⟩ := Int.eq_ofNat_of_zero_le hn.1
    obtain ⟨m, hmm⟩ := Int.eq_ofNat_of_zero_le (show 0 ≤ w * h by omega)
    have H : Hdr B w h N m hb := ⟨hc, d5, d6, d7, hdw, hdh, by omega, by omega⟩
    obtain ⟨x, e', b', P, w', iE, A', P2, K, t1, t2, t3, t4⟩ := fk_both hB hl H N 0 300 300 300 hb [] [] [] At none (by omega) (by omega) (by omega) (by omega) (.inl ⟨rfl, rfl, rfl, rfl⟩) L rfl rfl (fun j hj => absurd hj (by simp)) (fun h => by omega)
    by_cases he' : e' = 0
    · subst he'
      obtain ⟨rfl, u2, u3, u4, b'', u5⟩ := t4 rfl
      have pv : fde_L0_p B = true := by unfold fde_L0_p; rw [t1]; rfl
      have vv : fde_L0_v B = (x, 0, b', P, w') := by unfold fde_L0_v loopRes; rw [t1]; rfl
      have pv2 : rfd_L2_p B = true := by unfold rfd_L2_p; rw [d8, d9]; rw [show iter (rfd_L2_step B) 300 (0, At, 0, [], []) = _ from t2]; rfl
      have vv2 : rfd_L2_v B = (iE, A', 0, P, K) := by unfold rfd_L2_v loopRes; rw [d8, d9]; rw [show iter (rfd_L2_step B) 300 (0, At, 0, [], []) = _ from t2]; rfl
      obtain ⟨a, rfl, ha, hcol⟩ := t3.ok rfl
      have lb : b'.length = B.length - a := by rw [← col_length, hcol, List.length_drop, col_length]
      have wr : IntKind.i64.wrap ((B.length : Int) - (a : Int)) = ((b'.length : Nat) : Int) := by rw [wrap_in (by omega) (by omega)]; omega
      have hb0 : ((0 : Int) != 0) = false := rfl
      by_cases c : (b'.length : Int) > 0
      · have h10 : ((10 : Int) != 0) = true := rfl
        have g1 : fde_res B = some (10, []) := by
          simp only [fde_res, q0, q1, f1, pv, vv, Option.isSome_some, cond_true, cond_dec c, beq_self_eq_true]
        have g2 : fde_v B = (10, []) := by unfold fde_v; rw [g1]; rfl
        refine ⟨10, [], [], g1, ?_, ?_, by simp, by simp, 0, by omega, nil⟩
        · simp only [rfd_res, d1, d2, d3, d4, pv2, vv2, cond_true, hb0, cond_false, wr, cond_dec c, h10]
        · simp only [fki_res, g1, g2, Option.isSome_some, cond_true, h10]
      · have g1 : fde_res B = some (0, P) := by
          simp only [fde_res, q0, q1, f1, pv, vv, Option.isSome_some, cond_true, cond_not c, hb0, cond_false]
        have g2 : fde_v B = (0, P) := by unfold fde_v; rw [g1]; rfl
        refine ⟨0, P, K, g1, ?_, ?_, by omega, by omega, m, by omega, u4⟩
        · simp only [rfd_res, d1, d2, d3, d4, pv2, vv2, cond_true, hb0, cond_false, wr, cond_not c]
        · have kp : fki_L0_p B = true := by unfold fki_L0_p; rw [hkc]; rw [show iter (fki_L0_step B) 300 (0, 0, hb, []) = _ from u5]; rfl
          have kv : fki_L0_v B = ((N : Int), 0, b'', K) := by unfold fki_L0_v loopRes; rw [hkc]; rw [show iter (fki_L0_step B) 300 (0, 0, hb, []) = _ from u5]; rfl
          simp only [fki_res, g1, g2, q0, q1, f1, kp, kv, Option.isSome_some, cond_true, hb0, cond_false]
    · exact bad x e' b' P w' iE A' P2 K he' t3 t1 t2
  · have hbq : (e == 0) = false := by simpa using he
    refine bad n e hb [] [] 0 At [] [] he L (iter_inr ?_) (iter_inr ?_)
    · by_cases q : n > 0
      · simp only [fde_L0_step, hc, cond_dec q, hbq, cond_false]
      · simp only [fde_L0_step, hc, cond_not q]
    · have g : (bif (decide ((0 : Int) < IntKind.i64.wrap (rfd_c11257624 B).fst)) then e == (0 : Int) else false) = false := by rw [hbq]; cases decide ((0 : Int) < IntKind.i64.wrap (rfd_c11257624 B).fst) <;> rfl
      simp only [rfd_L2_step, g, cond_false]
theorem psa_same {D : List (List Ct)} {w h : Int} (hD : D.length ≤ 5000) : psa_res w h D w h D = some true := by
  have r : iter (psa_L0_step D D) (D.length + 1) (0 : Int) = some (.inl (D.length : Int)) := by
    refine iter_run (fun k => (k : Int)) (n := D.length) rfl (fun k hk => ?_) ?_ (by omega)
    · have q : (k : Int) < (D.length : Int) := by omega
      have q1 : (0 : Int) ≤ (k : Int) ∧ (k : Int) < (D.length : Int) := by omega
      simp only [psa_L0_step, cond_dec q, cond_dec q1, beq_self_eq_true, Bool.and_self, Bool.not_true, cond_false]
      rw [wrap_succ (by omega)]
    · have q : ¬ ((D.length : Int) < (D.length : Int)) := by omega
      simp only [psa_L0_step, cond_not q]
  have pv : psa_L0_p D D = true := by unfold psa_L0_p; rw [r]; rfl
  have vv : psa_L0_v D D = .inl (D.length : Int) := by unfold psa_L0_v; rw [r]; rfl
  simp only [psa_res, pv, vv, isL, bne_self_eq_false, cond_false, cond_true]
end Go.Proofs.Ytcpbiijegbbafaa
