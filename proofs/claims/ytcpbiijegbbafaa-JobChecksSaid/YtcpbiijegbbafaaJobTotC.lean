/- A reader's rows: what they answer, whatever the bytes are; what was laid is read. No condition. -/
import Derived.Test.YtcpbiijegbbafaaJobTotB
import Derived.Test.YtcpbiijegbbafaaEngJob7
import Derived.Test.YtcpbiijegbbafaaSceneLaw
set_option linter.unusedVariables false
set_option linter.unusedSimpArgs false
namespace Go.Proofs.Ytcpbiijegbbafaa
open Go.RowKit

def VP (r : List Ct) : Prop := ∃ a0 a1 a2 a3 a4 : Int, r = [.i a0, .i a1, .i a2, .i a3, .i a4] ∧ (0 ≤ a0 ∧ a0 < 256) ∧ (Fx a1 ∧ Fx a2 ∧ Fx a3) ∧ Fx a4
def VJ (r : List Ct) : Prop := ∃ a0 a1 a2 a3 : Int, r = [.i a0, .i a1, .i a2, .i a3] ∧ (-32768 ≤ a0 ∧ a0 ≤ 32767) ∧ (-32768 ≤ a1 ∧ a1 ≤ 32767) ∧ (-32768 ≤ a2 ∧ a2 ≤ 32767) ∧ Fx a3
def VK (r : List Ct) : Prop := ∃ a0 a1 a2 a3 : Int, r = [.i a0, .i a1, .i a2, .i a3] ∧ Fx a0 ∧ (Fx a1 ∧ Fx a2 ∧ Fx a3)
def VT (r : List Ct) : Prop := ∃ (w : Int) (K : List (List Ct)), r = [.i w, .l K] ∧ (0 ≤ w ∧ w < 256) ∧ K.length ≤ 16 ∧ ∀ x ∈ K, VK x
def VS (r : List Ct) : Prop := ∃ a0 a1 a2 a3 a4 a5 a6 a7 a8 a9 a10 a11 a12 : Int, r = [.i a0, .i a1, .i a2, .i a3, .i a4, .i a5, .i a6, .i a7, .i a8, .i a9, .i a10, .i a11, .i a12] ∧ (-32768 ≤ a0 ∧ a0 ≤ 32767) ∧ (0 ≤ a1 ∧ a1 < 65536) ∧ (Fx a3 ∧ Fx a4 ∧ Fx a5) ∧ ((a2 = 0 ∧ (a6 = 0 ∧ a7 = 0 ∧ a8 = 0 ∧ a9 = 0 ∧ a10 = 0 ∧ a11 = 0) ∧ Fx a12) ∨ (a2 = 1 ∧ (Fx a6 ∧ Fx a7 ∧ Fx a8) ∧ (Fx a9 ∧ Fx a10 ∧ Fx a11) ∧ a12 = 0))
theorem cP_of {l : List (List Ct)} (h : ∀ r ∈ l, VP r) : cP l = l := by
  refine List.ext_getElem cP_length fun i h1 h2 => ?_
  obtain ⟨a0, a1, a2, a3, a4, hr, _⟩ := h l[i] (List.getElem_mem h2)
  have hg : l.getD i [] = l[i] := by simp [List.getD, h2]
  simp only [cP, tab, List.getElem_map, List.getElem_range, gP, rd, hg, hr, List.getD_cons_zero, List.getD_cons_succ, Ct.int]
theorem cJ_of {l : List (List Ct)} (h : ∀ r ∈ l, VJ r) : cJ l = l := by
  refine List.ext_getElem cJ_length fun i h1 h2 => ?_
  obtain ⟨a0, a1, a2, a3, hr, _⟩ := h l[i] (List.getElem_mem h2)
  have hg : l.getD i [] = l[i] := by simp [List.getD, h2]
  simp only [cJ, tab, List.getElem_map, List.getElem_range, gJ, rd, hg, hr, List.getD_cons_zero, List.getD_cons_succ, Ct.int]
theorem cK_of {l : List (List Ct)} (h : ∀ r ∈ l, VK r) : cK l = l := by
  refine List.ext_getElem cK_length fun i h1 h2 => ?_
  obtain ⟨a0, a1, a2, a3, hr, _⟩ := h l[i] (List.getElem_mem h2)
  have hg : l.getD i [] = l[i] := by simp [List.getD, h2]
  simp only [cK, tab, List.getElem_map, List.getElem_range, gK, rd, hg, hr, List.getD_cons_zero, List.getD_cons_succ, Ct.int]
theorem cS_of {l : List (List Ct)} (h : ∀ r ∈ l, VS r) : cS l = l := by
  refine List.ext_getElem cS_length fun i h1 h2 => ?_
  obtain ⟨a0, a1, a2, a3, a4, a5, a6, a7, a8, a9, a10, a11, a12, hr, _⟩ := h l[i] (List.getElem_mem h2)
  have hg : l.getD i [] = l[i] := by simp [List.getD, h2]
  simp only [cS, tab, List.getElem_map, List.getElem_range, gS, rd, hg, hr, List.getD_cons_zero, List.getD_cons_succ, Ct.int]
theorem cT_of {l : List (List Ct)} (h : ∀ r ∈ l, VT r) : cT l = l := by
  refine List.ext_getElem cT_length fun i h1 h2 => ?_
  obtain ⟨w, K, hr, _, _, hK⟩ := h l[i] (List.getElem_mem h2)
  have hg : l.getD i [] = l[i] := by simp [List.getD, h2]
  simp only [cT, tab, List.getElem_map, List.getElem_range, gT, rd, hg, hr, List.getD_cons_zero, List.getD_cons_succ, Ct.int, Ct.rows, cK_of hK]
theorem few_of {l : List (List Ct)} (h : ∀ r ∈ l, VT r) : ∀ k, k < l.length → (rd l k 1).rows.length ≤ 16 := by
  intro k hk
  obtain ⟨w, K, hr, _, hl, _⟩ := h l[k] (List.getElem_mem hk)
  have hg : l.getD k [] = l[k] := by simp [List.getD, hk]
  simp only [rd, hg, hr, List.getD_cons_zero, List.getD_cons_succ, Ct.rows]
  exact hl
def mk4 (c e : Int) (b r : List (List Ct)) : Int × Int × List (List Ct) × List (List Ct) := (c, e, b, r)
def mk5 (k c e : Int) (b r : List (List Ct)) : Int × Int × Int × List (List Ct) × List (List Ct) := (c, k, e, b, r)
theorem ps_t : ∀ (d : Nat) e b rows fuel, d < 256 → d < fuel → rows.length + d ≤ 300 → Byt (col b) → ∃ k e' b' s, iter jpa_L0_step fuel (mk4 (d : Int) e b rows) = some (mk4 k e' b' (rows ++ s)) ∧ Byt (col b') ∧ b'.length ≤ b.length ∧ s.length ≤ d ∧ (e' = 0 → e = 0 ∧ s.length = d ∧ (∀ r ∈ s, VP r) ∧ col b = s.flatMap eP ++ col b') :=
  t_loop (step := jpa_L0_step) mk4 eP VP (fun e b rows => by
    show jpa_L0_step (0, e, b, rows) = some (.inr (0, e, b, rows))
    simp only [jpa_L0_step]
    rw [cond_not (by omega)]) (fun d e b rows he hd => by
    have q1 : ((d + 1 : Nat) : Int) > 0 := by omega
    have b1 : (e == 0) = false := by simpa using he
    show jpa_L0_step (((d + 1 : Nat) : Int), e, b, rows) = some (.inr (((d + 1 : Nat) : Int), e, b, rows))
    simp only [jpa_L0_step, cond_dec q1, b1, cond_false]) (fun d b rows hd hl hB => by
    have q1 : ((d + 1 : Nat) : Int) > 0 := by omega
    have w1 : IntKind.i64.wrap (((d + 1 : Nat) : Int) - 1) = (d : Int) := by rw [wrap_in (by omega) (by omega)]; omega
    obtain ⟨a0, e0, b0, ⟨r0, s0⟩, B0, l0, i0⟩ := by_t 0 hB
    obtain ⟨a1, a2, a3, e1, b1, ⟨r1, s1⟩, ⟨t1, u1⟩, B1, l1, i1⟩ := vc_t e0 B0
    obtain ⟨a4, e2, b2, ⟨r2, s2⟩, B2, l2, i2⟩ := fx_t e1 B1
    refine ⟨e2, b2, [.i a0, .i a1, .i a2, .i a3, .i a4], ?_, B2, by omega, fun h => ?_⟩
    · show jpa_L0_step (((d + 1 : Nat) : Int), 0, b, rows) = some (.inl ((d : Int), e2, b2, rows ++ [[.i a0, .i a1, .i a2, .i a3, .i a4]]))
      simp only [jpa_L0_step, jpa_c20883189, jpa_c47053767, jpa_c47249889, jpa_c4755454, jpa_c50623285, jpa_c5883654, jpa_c60236699, jpa_c65951607, jpa_c73035710, jpa_c73656058, jpa_c80005064, jpa_c83617453, cond_dec q1, r0, s0, r1, s1, t1, u1, r2, s2, Option.isSome_some, cond_true, w1, beq_self_eq_true]
      exact ob_step (by simp only [List.length_cons, List.length_nil]; omega) rfl
    · obtain ⟨h2, v2, c2⟩ := i2 h
      obtain ⟨h1, v1, c1⟩ := i1 h2
      obtain ⟨h0, v0, c0⟩ := i0 h1
      refine ⟨⟨a0, a1, a2, a3, a4, rfl, v0, v1, v2⟩, ?_⟩
      rw [c0, c1, c2]
      simp only [eP, List.getD_cons_zero, List.getD_cons_succ, Ct.int, List.append_assoc])
theorem ps_f : ∀ (s : List (List Ct)) b rows t fuel, s.length < 256 → s.length < fuel → rows.length + s.length ≤ 300 → Byt (col b) → (∀ r ∈ s, VP r) → col b = s.flatMap eP ++ t → ∃ b', iter jpa_L0_step fuel (mk4 (s.length : Int) 0 b rows) = some (mk4 0 0 b' (rows ++ s)) ∧ Byt (col b') ∧ col b' = t :=
  f_loop (step := jpa_L0_step) mk4 eP VP (fun e b rows => by
    show jpa_L0_step (0, e, b, rows) = some (.inr (0, e, b, rows))
    simp only [jpa_L0_step]
    rw [cond_not (by omega)]) (fun d b rows r t hd hl hB hV hc => by
    have q1 : ((d + 1 : Nat) : Int) > 0 := by omega
    have w1 : IntKind.i64.wrap (((d + 1 : Nat) : Int) - 1) = (d : Int) := by rw [wrap_in (by omega) (by omega)]; omega
    obtain ⟨a0, a1, a2, a3, a4, rfl, v0, v1, v2⟩ := hV
    simp only [eP, List.getD_cons_zero, List.getD_cons_succ, Ct.int, List.append_assoc] at hc
    obtain ⟨b0, ⟨r0, s0⟩, B0, c0⟩ := by_f hB v0 hc
    obtain ⟨b1, ⟨r1, s1⟩, ⟨t1, u1⟩, B1, c1⟩ := vc_f B0 v1 c0
    obtain ⟨b2, ⟨r2, s2⟩, B2, c2⟩ := fx_f B1 v2 c1
    refine ⟨b2, ?_, B2, c2⟩
    show jpa_L0_step (((d + 1 : Nat) : Int), 0, b, rows) = some (.inl ((d : Int), 0, b2, rows ++ [[.i a0, .i a1, .i a2, .i a3, .i a4]]))
    simp only [jpa_L0_step, jpa_c20883189, jpa_c47053767, jpa_c47249889, jpa_c4755454, jpa_c50623285, jpa_c5883654, jpa_c60236699, jpa_c65951607, jpa_c73035710, jpa_c73656058, jpa_c80005064, jpa_c83617453, cond_dec q1, r0, s0, r1, s1, t1, u1, r2, s2, Option.isSome_some, cond_true, w1, beq_self_eq_true]
    exact ob_step (by simp only [List.length_cons, List.length_nil]; omega) rfl)
theorem js_t : ∀ (d : Nat) e b rows fuel, d < 256 → d < fuel → rows.length + d ≤ 300 → Byt (col b) → ∃ k e' b' s, iter jpa_L4_step fuel (mk4 (d : Int) e b rows) = some (mk4 k e' b' (rows ++ s)) ∧ Byt (col b') ∧ b'.length ≤ b.length ∧ s.length ≤ d ∧ (e' = 0 → e = 0 ∧ s.length = d ∧ (∀ r ∈ s, VJ r) ∧ col b = s.flatMap eJ ++ col b') :=
  t_loop (step := jpa_L4_step) mk4 eJ VJ (fun e b rows => by
    show jpa_L4_step (0, e, b, rows) = some (.inr (0, e, b, rows))
    simp only [jpa_L4_step]
    rw [cond_not (by omega)]) (fun d e b rows he hd => by
    have q1 : ((d + 1 : Nat) : Int) > 0 := by omega
    have b1 : (e == 0) = false := by simpa using he
    show jpa_L4_step (((d + 1 : Nat) : Int), e, b, rows) = some (.inr (((d + 1 : Nat) : Int), e, b, rows))
    simp only [jpa_L4_step, cond_dec q1, b1, cond_false]) (fun d b rows hd hl hB => by
    have q1 : ((d + 1 : Nat) : Int) > 0 := by omega
    have w1 : IntKind.i64.wrap (((d + 1 : Nat) : Int) - 1) = (d : Int) := by rw [wrap_in (by omega) (by omega)]; omega
    obtain ⟨a0, e0, b0, ⟨r0, s0⟩, B0, l0, i0⟩ := sm_t 0 hB
    obtain ⟨a1, e1, b1, ⟨r1, s1⟩, B1, l1, i1⟩ := sm_t e0 B0
    obtain ⟨a2, e2, b2, ⟨r2, s2⟩, B2, l2, i2⟩ := sm_t e1 B1
    obtain ⟨a3, e3, b3, ⟨r3, s3⟩, B3, l3, i3⟩ := fx_t e2 B2
    refine ⟨e3, b3, [.i a0, .i a1, .i a2, .i a3], ?_, B3, by omega, fun h => ?_⟩
    · show jpa_L4_step (((d + 1 : Nat) : Int), 0, b, rows) = some (.inl ((d : Int), e3, b3, rows ++ [[.i a0, .i a1, .i a2, .i a3]]))
      simp only [jpa_L4_step, jpa_c20883189, jpa_c47053767, jpa_c47249889, jpa_c4755454, jpa_c50623285, jpa_c5883654, jpa_c60236699, jpa_c65951607, jpa_c73035710, jpa_c73656058, jpa_c80005064, jpa_c83617453, cond_dec q1, r0, s0, r1, s1, r2, s2, r3, s3, Option.isSome_some, cond_true, w1, beq_self_eq_true]
      exact ob_step (by simp only [List.length_cons, List.length_nil]; omega) rfl
    · obtain ⟨h3, v3, c3⟩ := i3 h
      obtain ⟨h2, v2, c2⟩ := i2 h3
      obtain ⟨h1, v1, c1⟩ := i1 h2
      obtain ⟨h0, v0, c0⟩ := i0 h1
      refine ⟨⟨a0, a1, a2, a3, rfl, v0, v1, v2, v3⟩, ?_⟩
      rw [c0, c1, c2, c3]
      simp only [eJ, List.getD_cons_zero, List.getD_cons_succ, Ct.int, List.append_assoc])
theorem js_f : ∀ (s : List (List Ct)) b rows t fuel, s.length < 256 → s.length < fuel → rows.length + s.length ≤ 300 → Byt (col b) → (∀ r ∈ s, VJ r) → col b = s.flatMap eJ ++ t → ∃ b', iter jpa_L4_step fuel (mk4 (s.length : Int) 0 b rows) = some (mk4 0 0 b' (rows ++ s)) ∧ Byt (col b') ∧ col b' = t :=
  f_loop (step := jpa_L4_step) mk4 eJ VJ (fun e b rows => by
    show jpa_L4_step (0, e, b, rows) = some (.inr (0, e, b, rows))
    simp only [jpa_L4_step]
    rw [cond_not (by omega)]) (fun d b rows r t hd hl hB hV hc => by
    have q1 : ((d + 1 : Nat) : Int) > 0 := by omega
    have w1 : IntKind.i64.wrap (((d + 1 : Nat) : Int) - 1) = (d : Int) := by rw [wrap_in (by omega) (by omega)]; omega
    obtain ⟨a0, a1, a2, a3, rfl, v0, v1, v2, v3⟩ := hV
    simp only [eJ, List.getD_cons_zero, List.getD_cons_succ, Ct.int, List.append_assoc] at hc
    obtain ⟨b0, ⟨r0, s0⟩, B0, c0⟩ := sm_f hB v0 hc
    obtain ⟨b1, ⟨r1, s1⟩, B1, c1⟩ := sm_f B0 v1 c0
    obtain ⟨b2, ⟨r2, s2⟩, B2, c2⟩ := sm_f B1 v2 c1
    obtain ⟨b3, ⟨r3, s3⟩, B3, c3⟩ := fx_f B2 v3 c2
    refine ⟨b3, ?_, B3, c3⟩
    show jpa_L4_step (((d + 1 : Nat) : Int), 0, b, rows) = some (.inl ((d : Int), 0, b3, rows ++ [[.i a0, .i a1, .i a2, .i a3]]))
    simp only [jpa_L4_step, jpa_c20883189, jpa_c47053767, jpa_c47249889, jpa_c4755454, jpa_c50623285, jpa_c5883654, jpa_c60236699, jpa_c65951607, jpa_c73035710, jpa_c73656058, jpa_c80005064, jpa_c83617453, cond_dec q1, r0, s0, r1, s1, r2, s2, r3, s3, Option.isSome_some, cond_true, w1, beq_self_eq_true]
    exact ob_step (by simp only [List.length_cons, List.length_nil]; omega) rfl)
theorem ks_t (c : Int) : ∀ (d : Nat) e b rows fuel, d < 256 → d < fuel → rows.length + d ≤ 300 → Byt (col b) → ∃ k e' b' s, iter jtr_L0_step fuel ((mk5 c) (d : Int) e b rows) = some ((mk5 c) k e' b' (rows ++ s)) ∧ Byt (col b') ∧ b'.length ≤ b.length ∧ s.length ≤ d ∧ (e' = 0 → e = 0 ∧ s.length = d ∧ (∀ r ∈ s, VK r) ∧ col b = s.flatMap eK ++ col b') :=
  t_loop (step := jtr_L0_step) (mk5 c) eK VK (fun e b rows => by
    show jtr_L0_step (0, c, e, b, rows) = some (.inr (0, c, e, b, rows))
    simp only [jtr_L0_step]
    rw [cond_not (by omega)]) (fun d e b rows he hd => by
    have q1 : ((d + 1 : Nat) : Int) > 0 := by omega
    have b1 : (e == 0) = false := by simpa using he
    show jtr_L0_step (((d + 1 : Nat) : Int), c, e, b, rows) = some (.inr (((d + 1 : Nat) : Int), c, e, b, rows))
    simp only [jtr_L0_step, cond_dec q1, b1, cond_false]) (fun d b rows hd hl hB => by
    have q1 : ((d + 1 : Nat) : Int) > 0 := by omega
    have w1 : IntKind.i64.wrap (((d + 1 : Nat) : Int) - 1) = (d : Int) := by rw [wrap_in (by omega) (by omega)]; omega
    obtain ⟨a0, e0, b0, ⟨r0, s0⟩, B0, l0, i0⟩ := fx_t 0 hB
    obtain ⟨a1, a2, a3, e1, b1, ⟨r1, s1⟩, ⟨t1, u1⟩, B1, l1, i1⟩ := vc_t e0 B0
    refine ⟨e1, b1, [.i a0, .i a1, .i a2, .i a3], ?_, B1, by omega, fun h => ?_⟩
    · show jtr_L0_step (((d + 1 : Nat) : Int), c, 0, b, rows) = some (.inl ((d : Int), c, e1, b1, rows ++ [[.i a0, .i a1, .i a2, .i a3]]))
      simp only [jtr_L0_step, jtr_c1216445, jtr_c37792205, cond_dec q1, r0, s0, r1, s1, t1, u1, Option.isSome_some, cond_true, w1, beq_self_eq_true]
      exact ob_step (by simp only [List.length_cons, List.length_nil]; omega) rfl
    · obtain ⟨h1, v1, c1⟩ := i1 h
      obtain ⟨h0, v0, c0⟩ := i0 h1
      refine ⟨⟨a0, a1, a2, a3, rfl, v0, v1⟩, ?_⟩
      rw [c0, c1]
      simp only [eK, List.getD_cons_zero, List.getD_cons_succ, Ct.int, List.append_assoc])
theorem ks_f (c : Int) : ∀ (s : List (List Ct)) b rows t fuel, s.length < 256 → s.length < fuel → rows.length + s.length ≤ 300 → Byt (col b) → (∀ r ∈ s, VK r) → col b = s.flatMap eK ++ t → ∃ b', iter jtr_L0_step fuel ((mk5 c) (s.length : Int) 0 b rows) = some ((mk5 c) 0 0 b' (rows ++ s)) ∧ Byt (col b') ∧ col b' = t :=
  f_loop (step := jtr_L0_step) (mk5 c) eK VK (fun e b rows => by
    show jtr_L0_step (0, c, e, b, rows) = some (.inr (0, c, e, b, rows))
    simp only [jtr_L0_step]
    rw [cond_not (by omega)]) (fun d b rows r t hd hl hB hV hc => by
    have q1 : ((d + 1 : Nat) : Int) > 0 := by omega
    have w1 : IntKind.i64.wrap (((d + 1 : Nat) : Int) - 1) = (d : Int) := by rw [wrap_in (by omega) (by omega)]; omega
    obtain ⟨a0, a1, a2, a3, rfl, v0, v1⟩ := hV
    simp only [eK, List.getD_cons_zero, List.getD_cons_succ, Ct.int, List.append_assoc] at hc
    obtain ⟨b0, ⟨r0, s0⟩, B0, c0⟩ := fx_f hB v0 hc
    obtain ⟨b1, ⟨r1, s1⟩, ⟨t1, u1⟩, B1, c1⟩ := vc_f B0 v1 c0
    refine ⟨b1, ?_, B1, c1⟩
    show jtr_L0_step (((d + 1 : Nat) : Int), c, 0, b, rows) = some (.inl ((d : Int), c, 0, b1, rows ++ [[.i a0, .i a1, .i a2, .i a3]]))
    simp only [jtr_L0_step, jtr_c1216445, jtr_c37792205, cond_dec q1, r0, s0, r1, s1, t1, u1, Option.isSome_some, cond_true, w1, beq_self_eq_true]
    exact ob_step (by simp only [List.length_cons, List.length_nil]; omega) rfl)
theorem tr_t {b : List (List Ct)} (hB : Byt (col b)) :
    ∃ w K e' b', (jtr_res b 0 = some (e', w, b', K) ∧ jtr_v b 0 = (e', w, b', K)) ∧ Byt (col b') ∧ b'.length ≤ b.length ∧ (e' = 0 → VT [.i w, .l K] ∧ col b = eT [.i w, .l K] ++ col b') := by
  obtain ⟨w, e0, b0, ⟨r0, s0⟩, B0, l0, i0⟩ := by_t 0 hB
  obtain ⟨n, e1, b1, ⟨r1, s1⟩, B1, l1, hn, i1⟩ := mn_t e0 B0 16 23 (by omega) (by omega)
  obtain ⟨n, rfl⟩ := Int.eq_ofNat_of_zero_le hn.1
  obtain ⟨k, e2, b2, K, g, B2, l2, hl, i2⟩ := ks_t (n : Int) n e1 b1 [] 300 (by omega) (by omega) (by simp only [List.length_nil]; omega) B1
  rw [List.nil_append] at g
  have j1 : jtr_L0_p b 0 = true := by simp only [jtr_L0_p, jtr_c1216445, jtr_c37792205, s0, s1]; exact congrArg Option.isSome g
  have j2 : jtr_L0_v b 0 = (k, (n : Int), e2, b2, K) := by simp only [jtr_L0_v, loopRes, jtr_c1216445, jtr_c37792205, s0, s1]; exact congrArg (fun o : Option (Int × Int × Int × List (List Ct) × List (List Ct)) => o.getD default) g
  have h : jtr_res b 0 = some (e2, w, b2, K) := by
    unfold jtr_res
    simp only [jtr_c1216445, jtr_c37792205, r0, s0, r1, s1, j1, j2, Option.isSome_some, cond_true]
  refine ⟨w, K, e2, b2, ⟨h, by unfold jtr_v; rw [h]; rfl⟩, B2, by omega, fun hz => ?_⟩
  obtain ⟨h1, m1, m2, c2⟩ := i2 hz
  obtain ⟨h0, hm, c1⟩ := i1 h1
  obtain ⟨_, v0, c0⟩ := i0 h0
  refine ⟨⟨w, K, rfl, v0, by omega, m2⟩, ?_⟩
  rw [c0, c1, c2]
  simp only [eT, List.getD_cons_zero, List.getD_cons_succ, Ct.int, Ct.rows, m1, List.append_assoc]
theorem tr_f {b : List (List Ct)} {t : List Int} {r : List Ct} (hB : Byt (col b)) (hV : VT r) (hc : col b = eT r ++ t) :
    ∃ w K b', r = [.i w, .l K] ∧ (jtr_res b 0 = some (0, w, b', K) ∧ jtr_v b 0 = (0, w, b', K)) ∧ Byt (col b') ∧ col b' = t := by
  obtain ⟨w, K, rfl, hw, hK, hv⟩ := hV
  simp only [eT, List.getD_cons_zero, List.getD_cons_succ, Ct.int, Ct.rows, List.append_assoc] at hc
  obtain ⟨b0, ⟨r0, s0⟩, B0, c0⟩ := by_f hB hw hc
  obtain ⟨b1, ⟨r1, s1⟩, B1, c1⟩ := mn_f B0 16 23 (by omega) (by omega) c0
  obtain ⟨b2, g, B2, c2⟩ := ks_f (K.length : Int) K b1 [] t 300 (by omega) (by omega) (by simp only [List.length_nil]; omega) B1 hv c1
  rw [List.nil_append] at g
  have j1 : jtr_L0_p b 0 = true := by simp only [jtr_L0_p, jtr_c1216445, jtr_c37792205, s0, s1]; exact congrArg Option.isSome g
  have j2 : jtr_L0_v b 0 = (0, (K.length : Int), 0, b2, K) := by simp only [jtr_L0_v, loopRes, jtr_c1216445, jtr_c37792205, s0, s1]; exact congrArg (fun o : Option (Int × Int × Int × List (List Ct) × List (List Ct)) => o.getD default) g
  have h : jtr_res b 0 = some (0, w, b2, K) := by
    unfold jtr_res
    simp only [jtr_c1216445, jtr_c37792205, r0, s0, r1, s1, j1, j2, Option.isSome_some, cond_true]
  exact ⟨w, K, b2, rfl, ⟨h, by unfold jtr_v; rw [h]; rfl⟩, B2, c2⟩
theorem sh_t {b : List (List Ct)} (hB : Byt (col b)) :
    ∃ a0 a1 a2 a3 a4 a5 a6 a7 a8 a9 a10 a11 a12 e' b', (jsh_res b 0 = some (e', a0, a1, a2, a3, a4, a5, a6, a7, a8, a9, a10, a11, a12, b') ∧ jsh_v b 0 = (e', a0, a1, a2, a3, a4, a5, a6, a7, a8, a9, a10, a11, a12, b')) ∧ Byt (col b') ∧ b'.length ≤ b.length ∧ (e' = 0 → VS [.i a0, .i a1, .i a2, .i a3, .i a4, .i a5, .i a6, .i a7, .i a8, .i a9, .i a10, .i a11, .i a12] ∧ col b = eS [.i a0, .i a1, .i a2, .i a3, .i a4, .i a5, .i a6, .i a7, .i a8, .i a9, .i a10, .i a11, .i a12] ++ col b') := by
  obtain ⟨a0, e0, b0, ⟨r0, s0⟩, B0, l0, i0⟩ := sm_t 0 hB
  obtain ⟨a1, e1, b1, ⟨r1, s1⟩, B1, l1, i1⟩ := ha_t e0 B0
  obtain ⟨a2, e2, b2, ⟨r2, s2⟩, B2, l2, i2⟩ := by_t e1 B1
  obtain ⟨a3, a4, a5, e3, b3, ⟨r3, s3⟩, ⟨t3, u3⟩, B3, l3, i3⟩ := vc_t e2 B2
  by_cases k0 : a2 = 0
  · subst k0
    obtain ⟨a12, e4, b4, ⟨r4, s4⟩, B4, l4, i4⟩ := fx_t e3 B3
    have h : jsh_res b 0 = some (e4, a0, a1, 0, a3, a4, a5, 0, 0, 0, 0, 0, 0, a12, b4) := by
      unfold jsh_res
      simp only [jsh_c1280629, jsh_c13908887, jsh_c36746435, jsh_c44858984, jsh_c50075936, jsh_c95629817, r0, s0, r1, s1, r2, s2, r3, s3, t3, u3, r4, s4, Option.isSome_some, cond_true, cond_false, beq_self_eq_true]
    refine ⟨a0, a1, 0, a3, a4, a5, 0, 0, 0, 0, 0, 0, a12, e4, b4, ⟨h, by unfold jsh_v; rw [h]; rfl⟩, B4, by omega, fun h => ?_⟩
    obtain ⟨h4, v4, c4⟩ := i4 h
    obtain ⟨h3, v3, c3⟩ := i3 h4
    obtain ⟨h2, v2, c2⟩ := i2 h3
    obtain ⟨h1, v1, c1⟩ := i1 h2
    obtain ⟨h0, v0, c0⟩ := i0 h1
    refine ⟨⟨a0, a1, 0, a3, a4, a5, 0, 0, 0, 0, 0, 0, a12, rfl, v0, v1, v3, .inl ⟨rfl, ⟨rfl, rfl, rfl, rfl, rfl, rfl⟩, v4⟩⟩, ?_⟩
    rw [c0, c1, c2, c3, c4]
    simp only [eS, bS13, List.getD_cons_zero, List.getD_cons_succ, Ct.int, if_true, List.append_assoc]
  · have kb0 : (a2 == 0) = false := by simpa using k0
    by_cases k1 : a2 = 1
    · subst k1
      obtain ⟨a6, a7, a8, e4, b4, ⟨r4, s4⟩, ⟨t4, u4⟩, B4, l4, i4⟩ := vc_t e3 B3
      obtain ⟨a9, a10, a11, e5, b5, ⟨r5, s5⟩, ⟨t5, u5⟩, B5, l5, i5⟩ := vc_t e4 B4
      have h : jsh_res b 0 = some (e5, a0, a1, 1, a3, a4, a5, a6, a7, a8, a9, a10, a11, 0, b5) := by
        unfold jsh_res
        simp only [jsh_c1280629, jsh_c13908887, jsh_c36746435, jsh_c44858984, jsh_c50075936, jsh_c95629817, r0, s0, r1, s1, r2, s2, r3, s3, t3, u3, r4, s4, t4, u4, r5, s5, t5, u5, Option.isSome_some, cond_true, cond_false, show ((1 : Int) == 0) = false from rfl, beq_self_eq_true]
      refine ⟨a0, a1, 1, a3, a4, a5, a6, a7, a8, a9, a10, a11, 0, e5, b5, ⟨h, by unfold jsh_v; rw [h]; rfl⟩, B5, by omega, fun h => ?_⟩
      obtain ⟨h5, v5, c5⟩ := i5 h
      obtain ⟨h4, v4, c4⟩ := i4 h5
      obtain ⟨h3, v3, c3⟩ := i3 h4
      obtain ⟨h2, v2, c2⟩ := i2 h3
      obtain ⟨h1, v1, c1⟩ := i1 h2
      obtain ⟨h0, v0, c0⟩ := i0 h1
      refine ⟨⟨a0, a1, 1, a3, a4, a5, a6, a7, a8, a9, a10, a11, 0, rfl, v0, v1, v3, .inr ⟨rfl, v4, v5, rfl⟩⟩, ?_⟩
      rw [c0, c1, c2, c3, c4, c5]
      simp only [eS, bS13, List.getD_cons_zero, List.getD_cons_succ, Ct.int, List.append_assoc]
      rw [if_neg (by omega)]
      simp only [List.append_assoc]
    · have kb1 : (a2 == 1) = false := by simpa using k1
      by_cases he : e3 = 0
      · subst he
        have h : jsh_res b 0 = some (25, a0, a1, a2, a3, a4, a5, 0, 0, 0, 0, 0, 0, 0, []) := by
          unfold jsh_res
          simp only [jsh_c1280629, jsh_c13908887, jsh_c36746435, jsh_c44858984, jsh_c50075936, jsh_c95629817, r0, s0, r1, s1, r2, s2, r3, s3, t3, u3, Option.isSome_some, cond_true, cond_false, kb0, kb1, beq_self_eq_true]
        refine ⟨a0, a1, a2, a3, a4, a5, 0, 0, 0, 0, 0, 0, 0, 25, [], ⟨h, by unfold jsh_v; rw [h]; rfl⟩, fun y hy => (by cases hy), (by simp), fun h => (by cases h)⟩
      · have b1 : (e3 == 0) = false := by simpa using he
        have h : jsh_res b 0 = some (e3, a0, a1, a2, a3, a4, a5, 0, 0, 0, 0, 0, 0, 0, b3) := by
          unfold jsh_res
          simp only [jsh_c1280629, jsh_c13908887, jsh_c36746435, jsh_c44858984, jsh_c50075936, jsh_c95629817, r0, s0, r1, s1, r2, s2, r3, s3, t3, u3, Option.isSome_some, cond_true, cond_false, kb0, kb1, b1]
        refine ⟨a0, a1, a2, a3, a4, a5, 0, 0, 0, 0, 0, 0, 0, e3, b3, ⟨h, by unfold jsh_v; rw [h]; rfl⟩, B3, by omega, fun h => absurd h he⟩
theorem sh_f {b : List (List Ct)} {t : List Int} {r : List Ct} (hB : Byt (col b)) (hV : VS r) (hc : col b = eS r ++ t) :
    ∃ a0 a1 a2 a3 a4 a5 a6 a7 a8 a9 a10 a11 a12 b', r = [.i a0, .i a1, .i a2, .i a3, .i a4, .i a5, .i a6, .i a7, .i a8, .i a9, .i a10, .i a11, .i a12] ∧ (jsh_res b 0 = some (0, a0, a1, a2, a3, a4, a5, a6, a7, a8, a9, a10, a11, a12, b') ∧ jsh_v b 0 = (0, a0, a1, a2, a3, a4, a5, a6, a7, a8, a9, a10, a11, a12, b')) ∧ Byt (col b') ∧ col b' = t := by
  obtain ⟨a0, a1, a2, a3, a4, a5, a6, a7, a8, a9, a10, a11, a12, rfl, v0, v1, v3, hk⟩ := hV
  rcases hk with ⟨rfl, ⟨rfl, rfl, rfl, rfl, rfl, rfl⟩, v4⟩ | ⟨rfl, v4, v5, rfl⟩
  · simp only [eS, bS13, List.getD_cons_zero, List.getD_cons_succ, Ct.int, if_true, List.append_assoc] at hc
    obtain ⟨b0, ⟨r0, s0⟩, B0, c0⟩ := sm_f hB v0 hc
    obtain ⟨b1, ⟨r1, s1⟩, B1, c1⟩ := ha_f B0 v1 c0
    obtain ⟨b2, ⟨r2, s2⟩, B2, c2⟩ := by_f B1 ⟨by omega, by omega⟩ c1
    obtain ⟨b3, ⟨r3, s3⟩, ⟨t3, u3⟩, B3, c3⟩ := vc_f B2 v3 c2
    obtain ⟨b4, ⟨r4, s4⟩, B4, c4⟩ := fx_f B3 v4 c3
    have h : jsh_res b 0 = some (0, a0, a1, 0, a3, a4, a5, 0, 0, 0, 0, 0, 0, a12, b4) := by
      unfold jsh_res
      simp only [jsh_c1280629, jsh_c13908887, jsh_c36746435, jsh_c44858984, jsh_c50075936, jsh_c95629817, r0, s0, r1, s1, r2, s2, r3, s3, t3, u3, r4, s4, Option.isSome_some, cond_true, cond_false, beq_self_eq_true]
    exact ⟨a0, a1, 0, a3, a4, a5, 0, 0, 0, 0, 0, 0, a12, b4, rfl, ⟨h, by unfold jsh_v; rw [h]; rfl⟩, B4, c4⟩
  · simp only [eS, bS13, List.getD_cons_zero, List.getD_cons_succ, Ct.int] at hc
    rw [if_neg (by omega)] at hc
    simp only [List.append_assoc] at hc
    obtain ⟨b0, ⟨r0, s0⟩, B0, c0⟩ := sm_f hB v0 hc
    obtain ⟨b1, ⟨r1, s1⟩, B1, c1⟩ := ha_f B0 v1 c0
    obtain ⟨b2, ⟨r2, s2⟩, B2, c2⟩ := by_f B1 ⟨by omega, by omega⟩ c1
    obtain ⟨b3, ⟨r3, s3⟩, ⟨t3, u3⟩, B3, c3⟩ := vc_f B2 v3 c2
    obtain ⟨b4, ⟨r4, s4⟩, ⟨t4, u4⟩, B4, c4⟩ := vc_f B3 v4 c3
    obtain ⟨b5, ⟨r5, s5⟩, ⟨t5, u5⟩, B5, c5⟩ := vc_f B4 v5 c4
    have h : jsh_res b 0 = some (0, a0, a1, 1, a3, a4, a5, a6, a7, a8, a9, a10, a11, 0, b5) := by
      unfold jsh_res
      simp only [jsh_c1280629, jsh_c13908887, jsh_c36746435, jsh_c44858984, jsh_c50075936, jsh_c95629817, r0, s0, r1, s1, r2, s2, r3, s3, t3, u3, r4, s4, t4, u4, r5, s5, t5, u5, Option.isSome_some, cond_true, cond_false, show ((1 : Int) == 0) = false from rfl, beq_self_eq_true]
    exact ⟨a0, a1, 1, a3, a4, a5, a6, a7, a8, a9, a10, a11, 0, b5, rfl, ⟨h, by unfold jsh_v; rw [h]; rfl⟩, B5, c5⟩
theorem ts_t : ∀ (d : Nat) e b rows fuel, d < 256 → d < fuel → rows.length + d ≤ 300 → Byt (col b) → ∃ k e' b' s, iter jpa_L2_step fuel (mk4 (d : Int) e b rows) = some (mk4 k e' b' (rows ++ s)) ∧ Byt (col b') ∧ b'.length ≤ b.length ∧ s.length ≤ d ∧ (e' = 0 → e = 0 ∧ s.length = d ∧ (∀ r ∈ s, VT r) ∧ col b = s.flatMap eT ++ col b') :=
  t_loop (step := jpa_L2_step) mk4 eT VT (fun e b rows => by
    show jpa_L2_step (0, e, b, rows) = some (.inr (0, e, b, rows))
    simp only [jpa_L2_step]
    rw [cond_not (by omega)]) (fun d e b rows he hd => by
    have q1 : ((d + 1 : Nat) : Int) > 0 := by omega
    have b1 : (e == 0) = false := by simpa using he
    show jpa_L2_step (((d + 1 : Nat) : Int), e, b, rows) = some (.inr (((d + 1 : Nat) : Int), e, b, rows))
    simp only [jpa_L2_step, cond_dec q1, b1, cond_false]) (fun d b rows hd hl hB => by
    have q1 : ((d + 1 : Nat) : Int) > 0 := by omega
    have w1 : IntKind.i64.wrap (((d + 1 : Nat) : Int) - 1) = (d : Int) := by rw [wrap_in (by omega) (by omega)]; omega
    obtain ⟨w, K, e0, b0, ⟨r0, s0⟩, B0, l0, i0⟩ := tr_t hB
    refine ⟨e0, b0, [.i w, .l K], ?_, B0, l0, i0⟩
    show jpa_L2_step (((d + 1 : Nat) : Int), 0, b, rows) = some (.inl ((d : Int), e0, b0, rows ++ [[.i w, .l K]]))
    simp only [jpa_L2_step, jpa_c20883189, jpa_c47053767, jpa_c47249889, jpa_c4755454, jpa_c50623285, jpa_c5883654, jpa_c60236699, jpa_c65951607, jpa_c73035710, jpa_c73656058, jpa_c80005064, jpa_c83617453, cond_dec q1, r0, s0, Option.isSome_some, cond_true, w1, beq_self_eq_true]
    exact ob_step (by simp only [List.length_cons, List.length_nil]; omega) rfl)
theorem ts_f : ∀ (s : List (List Ct)) b rows t fuel, s.length < 256 → s.length < fuel → rows.length + s.length ≤ 300 → Byt (col b) → (∀ r ∈ s, VT r) → col b = s.flatMap eT ++ t → ∃ b', iter jpa_L2_step fuel (mk4 (s.length : Int) 0 b rows) = some (mk4 0 0 b' (rows ++ s)) ∧ Byt (col b') ∧ col b' = t :=
  f_loop (step := jpa_L2_step) mk4 eT VT (fun e b rows => by
    show jpa_L2_step (0, e, b, rows) = some (.inr (0, e, b, rows))
    simp only [jpa_L2_step]
    rw [cond_not (by omega)]) (fun d b rows r t hd hl hB hV hc => by
    have q1 : ((d + 1 : Nat) : Int) > 0 := by omega
    have w1 : IntKind.i64.wrap (((d + 1 : Nat) : Int) - 1) = (d : Int) := by rw [wrap_in (by omega) (by omega)]; omega
    obtain ⟨w, K, b0, rfl, ⟨r0, s0⟩, B0, c0⟩ := tr_f hB hV hc
    refine ⟨b0, ?_, B0, c0⟩
    show jpa_L2_step (((d + 1 : Nat) : Int), 0, b, rows) = some (.inl ((d : Int), 0, b0, rows ++ [[.i w, .l K]]))
    simp only [jpa_L2_step, jpa_c20883189, jpa_c47053767, jpa_c47249889, jpa_c4755454, jpa_c50623285, jpa_c5883654, jpa_c60236699, jpa_c65951607, jpa_c73035710, jpa_c73656058, jpa_c80005064, jpa_c83617453, cond_dec q1, r0, s0, Option.isSome_some, cond_true, w1, beq_self_eq_true]
    exact ob_step (by simp only [List.length_cons, List.length_nil]; omega) rfl)
theorem ss_t : ∀ (d : Nat) e b rows fuel, d < 256 → d < fuel → rows.length + d ≤ 300 → Byt (col b) → ∃ k e' b' s, iter jpa_L6_step fuel (mk4 (d : Int) e b rows) = some (mk4 k e' b' (rows ++ s)) ∧ Byt (col b') ∧ b'.length ≤ b.length ∧ s.length ≤ d ∧ (e' = 0 → e = 0 ∧ s.length = d ∧ (∀ r ∈ s, VS r) ∧ col b = s.flatMap eS ++ col b') :=
  t_loop (step := jpa_L6_step) mk4 eS VS (fun e b rows => by
    show jpa_L6_step (0, e, b, rows) = some (.inr (0, e, b, rows))
    simp only [jpa_L6_step]
    rw [cond_not (by omega)]) (fun d e b rows he hd => by
    have q1 : ((d + 1 : Nat) : Int) > 0 := by omega
    have b1 : (e == 0) = false := by simpa using he
    show jpa_L6_step (((d + 1 : Nat) : Int), e, b, rows) = some (.inr (((d + 1 : Nat) : Int), e, b, rows))
    simp only [jpa_L6_step, cond_dec q1, b1, cond_false]) (fun d b rows hd hl hB => by
    have q1 : ((d + 1 : Nat) : Int) > 0 := by omega
    have w1 : IntKind.i64.wrap (((d + 1 : Nat) : Int) - 1) = (d : Int) := by rw [wrap_in (by omega) (by omega)]; omega
    obtain ⟨a0, a1, a2, a3, a4, a5, a6, a7, a8, a9, a10, a11, a12, e0, b0, ⟨r0, s0⟩, B0, l0, i0⟩ := sh_t hB
    refine ⟨e0, b0, [.i a0, .i a1, .i a2, .i a3, .i a4, .i a5, .i a6, .i a7, .i a8, .i a9, .i a10, .i a11, .i a12], ?_, B0, l0, i0⟩
    show jpa_L6_step (((d + 1 : Nat) : Int), 0, b, rows) = some (.inl ((d : Int), e0, b0, rows ++ [[.i a0, .i a1, .i a2, .i a3, .i a4, .i a5, .i a6, .i a7, .i a8, .i a9, .i a10, .i a11, .i a12]]))
    simp only [jpa_L6_step, jpa_c20883189, jpa_c47053767, jpa_c47249889, jpa_c4755454, jpa_c50623285, jpa_c5883654, jpa_c60236699, jpa_c65951607, jpa_c73035710, jpa_c73656058, jpa_c80005064, jpa_c83617453, cond_dec q1, r0, s0, Option.isSome_some, cond_true, w1, beq_self_eq_true]
    exact ob_step (by simp only [List.length_cons, List.length_nil]; omega) rfl)
theorem ss_f : ∀ (s : List (List Ct)) b rows t fuel, s.length < 256 → s.length < fuel → rows.length + s.length ≤ 300 → Byt (col b) → (∀ r ∈ s, VS r) → col b = s.flatMap eS ++ t → ∃ b', iter jpa_L6_step fuel (mk4 (s.length : Int) 0 b rows) = some (mk4 0 0 b' (rows ++ s)) ∧ Byt (col b') ∧ col b' = t :=
  f_loop (step := jpa_L6_step) mk4 eS VS (fun e b rows => by
    show jpa_L6_step (0, e, b, rows) = some (.inr (0, e, b, rows))
    simp only [jpa_L6_step]
    rw [cond_not (by omega)]) (fun d b rows r t hd hl hB hV hc => by
    have q1 : ((d + 1 : Nat) : Int) > 0 := by omega
    have w1 : IntKind.i64.wrap (((d + 1 : Nat) : Int) - 1) = (d : Int) := by rw [wrap_in (by omega) (by omega)]; omega
    obtain ⟨a0, a1, a2, a3, a4, a5, a6, a7, a8, a9, a10, a11, a12, b0, rfl, ⟨r0, s0⟩, B0, c0⟩ := sh_f hB hV hc
    refine ⟨b0, ?_, B0, c0⟩
    show jpa_L6_step (((d + 1 : Nat) : Int), 0, b, rows) = some (.inl ((d : Int), 0, b0, rows ++ [[.i a0, .i a1, .i a2, .i a3, .i a4, .i a5, .i a6, .i a7, .i a8, .i a9, .i a10, .i a11, .i a12]]))
    simp only [jpa_L6_step, jpa_c20883189, jpa_c47053767, jpa_c47249889, jpa_c4755454, jpa_c50623285, jpa_c5883654, jpa_c60236699, jpa_c65951607, jpa_c73035710, jpa_c73656058, jpa_c80005064, jpa_c83617453, cond_dec q1, r0, s0, Option.isSome_some, cond_true, w1, beq_self_eq_true]
    exact ob_step (by simp only [List.length_cons, List.length_nil]; omega) rfl)
end Go.Proofs.Ytcpbiijegbbafaa
