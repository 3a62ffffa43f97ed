/- Tracks through points and of circles, in plain numbers. No condition. -/
import Derived.Test.YtigjlhhglhbbpaaSortLaw
import Derived.Test.YtigjlhhglhbbpaaTrackC
import Derived.Test.YtigjlhhglhbbpaaOrbitCirclesT
import Derived.Test.YtigjlhhglhbbpaaOrbitThroughT
set_option linter.unusedVariables false
set_option linter.unusedSimpArgs false
namespace Go.Proofs.Ytigjlhhglhbbpaa
open Go.RowKit

/-- How far a key is among so many. -/
noncomputable def shS (n k : Nat) : Int := divS (ofS (k : Int)) (ofS ((n : Int) - 1))
theorem osp_ok {a b : Int} {n : Nat} (h2 : 2 ≤ n) (hn : n ≤ 16) : osp_res a b (n : Int) = some (tab (fun k => [.i (lerpS a b (shS n k))]) n) ∧ osp_v a b (n : Int) = tab (fun k => [.i (lerpS a b (shS n k))]) n := by
  have w : IntKind.i64.wrap ((n : Int) - 1) = (n : Int) - 1 := wrap_in (by omega) (by omega)
  have c : ¬ (1 : Int) > (n : Int) - 1 := by omega
  have h := iter_run (step := osp_L0_step a b (n : Int)) (n := n) (m := (n : Int).toNat + 1) (r := ((n : Int), tab (fun k => [.i (lerpS a b (shS n k))]) n)) (v := (0, [])) (fun k => ((k : Int), tab (fun k => [.i (lerpS a b (shS n k))]) k)) rfl (fun k hk => by
    have q : (k : Int) < (n : Int) := by omega
    simp only [osp_L0_step, cond_dec q, w, if_neg c, wrap_succ (k := k) (by omega)]
    rw [cond_dec (by simp only [tab_length, List.length_cons, List.length_nil]; omega), ← tab_succ]
    rfl) (by
    have q : ¬ ((n : Int) < (n : Int)) := by omega
    simp only [osp_L0_step, cond_not q]) (by rw [Int.toNat_natCast]; omega)
  have p1 : osp_L0_p a b (n : Int) = true := by unfold osp_L0_p; rw [h]; rfl
  have hr : osp_res a b (n : Int) = some (tab (fun k => [.i (lerpS a b (shS n k))]) n) := by unfold osp_res osp_L0_v loopRes; rw [p1, h]; rfl
  exact ⟨hr, by unfold osp_v; rw [hr]; rfl⟩
theorem rshr_ok {n k : Nat} (h2 : 2 ≤ n) (hn : n ≤ 16) : rshr_res (k : Int) (n : Int) = some (shS n k) ∧ rshr_v (k : Int) (n : Int) = shS n k := by
  have w : IntKind.i64.wrap ((n : Int) - 1) = (n : Int) - 1 := wrap_in (by omega) (by omega)
  have c : ¬ (n : Int) < 2 := by omega
  have hr : rshr_res (k : Int) (n : Int) = some (shS n k) := by simp only [rshr_res, cond_not c, w, shS]
  exact ⟨hr, by unfold rshr_v; rw [hr]; rfl⟩
/-- The keys through points. -/
noncomputable def gTh (a b : Int) (P : List (List Ct)) (k : Nat) : List Ct := [.i (lerpS a b (shS P.length k)), .i (rd P k 0).int, .i (rd P k 1).int, .i (rd P k 2).int]
theorem rth_rows {a b : Int} {P : List (List Ct)} (h2 : 2 ≤ P.length) (hn : P.length ≤ 16) : rth_L0_p a b P = true ∧ (rth_L0_v a b P).2 = tab (gTh a b P) P.length := by
  have h := iter_run (step := rth_L0_step a b P) (n := P.length) (m := P.length + 1) (r := ((P.length : Int), tab (gTh a b P) P.length)) (v := (0, [])) (fun k => ((k : Int), tab (gTh a b P) k)) rfl (fun k hk => by
    have q : (k : Int) < (P.length : Int) := by omega
    have q2 : (0 : Int) ≤ (k : Int) ∧ (k : Int) < (P.length : Int) := by omega
    obtain ⟨s1, s2⟩ := rshr_ok (k := k) h2 hn
    simp only [rth_L0_step, cond_dec q, cond_dec q2, s1, s2, Option.isSome_some, cond_true, Int.toNat_natCast, wrap_succ (k := k) (by omega)]
    rw [cond_dec (by simp only [tab_length, List.length_cons, List.length_nil]; omega), ← tab_succ]
    rfl) (by
    have q : ¬ ((P.length : Int) < (P.length : Int)) := by omega
    simp only [rth_L0_step, cond_not q]) (by omega)
  exact ⟨by unfold rth_L0_p; rw [h]; rfl, by unfold rth_L0_v loopRes; rw [h]; rfl⟩
theorem okt_rows {a b : Int} {P Q : List (List Ct)} (h2 : 2 ≤ P.length) (hn : P.length ≤ 16) (hl : Q.length = P.length) (hQ : ∀ k, k < P.length → (rd Q k 0).int = (rd P k 0).int ∧ (rd Q k 1).int = (rd P k 1).int ∧ (rd Q k 2).int = (rd P k 2).int) : okt_L0_p a b (P.length : Int) Q = true ∧ (okt_L0_v a b (P.length : Int) Q).2 = tab (gTh a b P) P.length := by
  obtain ⟨o1, o2⟩ := osp_ok (a := a) (b := b) h2 hn
  have h := iter_run (step := okt_L0_step a b (P.length : Int) Q) (n := P.length) (m := (P.length : Int).toNat + 1) (r := ((P.length : Int), tab (gTh a b P) P.length)) (v := (0, [])) (fun k => ((k : Int), tab (gTh a b P) k)) rfl (fun k hk => by
    have q : (k : Int) < (P.length : Int) := by omega
    have q2 : (0 : Int) ≤ (k : Int) ∧ (k : Int) < (P.length : Int) := by omega
    obtain ⟨e0, e1, e2⟩ := hQ k hk
    have et : (rd (tab (fun k => [Ct.i (lerpS a b (shS P.length k))]) P.length) k 0).int = lerpS a b (shS P.length k) := by rw [rd_tab hk]; rfl
    simp only [okt_L0_step, o2, tab_length, hl, cond_dec q, cond_dec q2, Int.toNat_natCast, e0, e1, e2, et, wrap_succ (k := k) (by omega)]
    rw [cond_dec (by simp only [List.length_cons, List.length_nil]; omega), ← tab_succ]
    rfl) (by
    have q : ¬ ((P.length : Int) < (P.length : Int)) := by omega
    simp only [okt_L0_step, o2, tab_length, cond_not q]) (by rw [Int.toNat_natCast]; omega)
  exact ⟨by unfold okt_L0_p; rw [h]; rfl, by unfold okt_L0_v loopRes; rw [h]; rfl⟩
/-- Points, cell by cell. -/
def gV (x : List (List Ct)) (k : Nat) : List Ct := [.i (rd x k 0).int, .i (rd x k 1).int, .i (rd x k 2).int]
theorem lot_rows {P : List (List Ct)} (hb : P.length ≤ 40) : lot_L0_p P = true ∧ (lot_L0_v P).2 = tab (gV P) P.length := by
  have h := iter_run (step := lot_L0_step P) (n := P.length) (m := P.length + 1) (r := ((P.length : Int), tab (gV P) P.length)) (v := (0, [])) (fun k => ((k : Int), tab (gV P) k)) rfl (fun k hk => by
    have q : (k : Int) < (P.length : Int) := by omega
    have q2 : (0 : Int) ≤ (k : Int) ∧ (k : Int) < (P.length : Int) := by omega
    simp only [lot_L0_step, cond_dec q, cond_dec q2, Int.toNat_natCast, wrap_succ (k := k) (by omega)]
    rw [cond_dec (by simp only [tab_length, List.length_cons, List.length_nil]; omega), ← tab_succ]
    rfl) (by
    have q : ¬ ((P.length : Int) < (P.length : Int)) := by omega
    simp only [lot_L0_step, cond_not q]) (by omega)
  exact ⟨by unfold lot_L0_p; rw [h]; rfl, by unfold lot_L0_v loopRes; rw [h]; rfl⟩
theorem lot_true (w a b : Int) (P : List (List Ct)) : lot_res w a b P = some true := by
  unfold lot_res
  by_cases h40 : (P.length : Int) > 40
  · rw [cond_dec h40]
  obtain ⟨p1, p2⟩ := lot_rows (P := P) (by omega)
  rw [cond_not h40, p1, p2]
  generalize hQ : tab (gV P) P.length = Q
  have hl : Q.length = P.length := by rw [← hQ, tab_length]
  have hQ' : ∀ k, k < P.length → (rd Q k 0).int = (rd P k 0).int ∧ (rd Q k 1).int = (rd P k 1).int ∧ (rd Q k 2).int = (rd P k 2).int := fun k hk => by
    rw [← hQ]; simp [rd_tab hk, gV, Ct.int]
  have none' : (P.length : Int) < 2 ∨ (P.length : Int) > 16 ∨ a ≥ b → oth_res w a b Q = some (0, 1, []) ∧ rth_res w a b P = some (0, 1, []) := by
    intro h
    have e1 : okt_res w a b (P.length : Int) Q = some (0, 1, []) := by
      unfold okt_res
      rcases h with h | h | h
      · rw [cond_dec h]
      · rw [cond_not (by omega : ¬ (P.length : Int) < 2), cond_dec h]
      · by_cases c1 : (P.length : Int) < 2
        · rw [cond_dec c1]
        · by_cases c2 : (P.length : Int) > 16
          · rw [cond_not c1, cond_dec c2]
          · rw [cond_not c1, cond_not c2, cond_dec h]
    refine ⟨?_, ?_⟩
    · unfold oth_res okt_v
      rw [hl, e1]; rfl
    · unfold rth_res
      rcases h with h | h | h
      · rw [cond_dec h]
      · rw [cond_not (by omega : ¬ (P.length : Int) < 2), cond_dec h]
      · by_cases c1 : (P.length : Int) < 2
        · rw [cond_dec c1]
        · by_cases c2 : (P.length : Int) > 16
          · rw [cond_not c1, cond_dec c2]
          · rw [cond_not c1, cond_not c2, cond_dec h]
  have fin : ∀ (w' e : Int) (r s : List (List Ct)), oth_res w a b Q = some (w', e, r) → rth_res w a b P = some (w', e, s) → kOf r = kOf s → r.length ≤ 40 →
      (bif true then bif (oth_res w a b Q).isSome then bif (rth_res w a b P).isSome then bif ((oth_v w a b Q).2.1 == (rth_v w a b P).2.1) then (bif (tfr_res (oth_v w a b Q).1 (oth_v w a b Q).2.2).isSome then bif (rsa_res (tfr_v (oth_v w a b Q).1 (oth_v w a b Q).2.2).1 (tfr_v (oth_v w a b Q).1 (oth_v w a b Q).2.2).2 (rth_v w a b P).1 (rth_v w a b P).2.2).isSome then some (rsa_v (tfr_v (oth_v w a b Q).1 (oth_v w a b Q).2.2).1 (tfr_v (oth_v w a b Q).1 (oth_v w a b Q).2.2).2 (rth_v w a b P).1 (rth_v w a b P).2.2) else none else none) else some false else none else none else none) = some true := by
    intro w' e r s h1 h2 h3 h4
    have v1 : oth_v w a b Q = (w', e, r) := by unfold oth_v; rw [h1]; rfl
    have v2 : rth_v w a b P = (w', e, s) := by unfold rth_v; rw [h2]; rfl
    obtain ⟨i1, i2, i3⟩ := is_ok (w := w') h3 (by omega)
    simp only [h1, h2, v1, v2, Option.isSome_some, cond_true, beq_self_eq_true, i1, i2, i3]
  by_cases c : (P.length : Int) < 2 ∨ (P.length : Int) > 16 ∨ a ≥ b
  · obtain ⟨e1, e2⟩ := none' c
    exact fin 0 1 [] [] e1 e2 rfl (by simp)
  · have n2 : 2 ≤ P.length := by omega
    have n16 : P.length ≤ 16 := by omega
    obtain ⟨o1, o2⟩ := osp_ok (a := a) (b := b) n2 n16
    obtain ⟨k1, k2⟩ := okt_rows (a := a) (b := b) n2 n16 hl hQ'
    obtain ⟨r1, r2⟩ := rth_rows (a := a) (b := b) n2 n16
    have hr : (tab (gTh a b P) P.length).length = P.length := tab_length _ _
    obtain ⟨w', e, r, s, ⟨t1, t2⟩, ⟨t3, t4⟩, t5, t6, _, _⟩ := make_ok (w := w) (a := tab (gTh a b P) P.length) (b := tab (gTh a b P) P.length) (by omega) (by omega) (stb_few (by omega) (by omega)) rfl
    have c1 : ¬ (P.length : Int) < 2 := by omega
    have c2 : ¬ (P.length : Int) > 16 := by omega
    have c3 : ¬ a ≥ b := fun h => c (.inr (.inr h))
    refine fin w' e r s ?_ ?_ t5 t6
    · have : okt_res w a b (P.length : Int) Q = some (w', e, r) := by
        unfold okt_res
        simp only [cond_not c1, cond_not c2, cond_not c3, o1, Option.isSome_some, k1, k2, cond_true, t1, t2]
      unfold oth_res okt_v
      rw [hl, this]; rfl
    · unfold rth_res
      simp only [cond_not c1, cond_not c2, cond_not c3, r1, r2, cond_true, t3, t4, Option.isSome_some]
theorem lot_call (w a b : Int) (P : List (List Ct)) : CallOk Try.prog 3 [.sv (.one (.val false (.int .i64 w))), .sv (.one (.val false (.int .i64 a))), .sv (.one (.val false (.int .i64 b))), .sv (.one (.ext 0))] [(0, .grid [.int .i64, .int .i64, .int .i64] P)] 1 (lot_O true) := lot_tree (lot_true w a b P)
/-- The keys of a circle. -/
noncomputable def gCi (A B C r h t a b : Int) (n k : Nat) : List Ct := [.i (lerpS a b (shS n k)), .i (addS A (mulS r (cosS (mulS t (shS n k))))), .i (addS B h), .i (addS C (mulS r (sinS (mulS t (shS n k)))))]
theorem rci_rows {A B C r h t a b : Int} {n : Nat} (h2 : 2 ≤ n) (hn : n ≤ 16) : rci_L0_p A B C r h t a b (n : Int) = true ∧ (rci_L0_v A B C r h t a b (n : Int)).2 = tab (gCi A B C r h t a b n) n := by
  have h := iter_run (step := rci_L0_step A B C r h t a b (n : Int)) (n := n) (m := (n : Int).toNat + 1) (r := ((n : Int), tab (gCi A B C r h t a b n) n)) (v := (0, [])) (fun k => ((k : Int), tab (gCi A B C r h t a b n) k)) rfl (fun k hk => by
    have q : (k : Int) < (n : Int) := by omega
    obtain ⟨s1, s2⟩ := rshr_ok (k := k) h2 hn
    simp only [rci_L0_step, cond_dec q, s1, s2, Option.isSome_some, cond_true, wrap_succ (k := k) (by omega)]
    rw [cond_dec (by simp only [tab_length, List.length_cons, List.length_nil]; omega), ← tab_succ]
    rfl) (by
    have q : ¬ ((n : Int) < (n : Int)) := by omega
    simp only [rci_L0_step, cond_not q]) (by rw [Int.toNat_natCast]; omega)
  exact ⟨by unfold rci_L0_p; rw [h]; rfl, by unfold rci_L0_v loopRes; rw [h]; rfl⟩
theorem okc_rows {A B C r h t a b : Int} {n : Nat} (h2 : 2 ≤ n) (hn : n ≤ 16) : okc_L0_p a b (n : Int) t (n : Int) r h A B C = true ∧ (okc_L0_v a b (n : Int) t (n : Int) r h A B C).2 = tab (gCi A B C r h t a b n) n := by
  obtain ⟨o1, o2⟩ := osp_ok (a := a) (b := b) h2 hn
  have w : IntKind.i64.wrap ((n : Int) - 1) = (n : Int) - 1 := wrap_in (by omega) (by omega)
  have c : ¬ (1 : Int) > (n : Int) - 1 := by omega
  have hs : ∀ k : Nat, divS (ofS (k : Int)) (ofS ((n : Int) - 1)) = shS n k := fun _ => rfl
  have h := iter_run (step := okc_L0_step a b (n : Int) t (n : Int) r h A B C) (n := n) (m := (n : Int).toNat + 1) (r := ((n : Int), tab (gCi A B C r h t a b n) n)) (v := (0, [])) (fun k => ((k : Int), tab (gCi A B C r h t a b n) k)) rfl (fun k hk => by
    have q : (k : Int) < (n : Int) := by omega
    have q2 : (0 : Int) ≤ (k : Int) ∧ (k : Int) < (n : Int) := by omega
    have et : (rd (tab (fun k => [Ct.i (lerpS a b (shS n k))]) n) k 0).int = lerpS a b (shS n k) := by rw [rd_tab hk]; rfl
    simp only [okc_L0_step, o2, tab_length, cond_dec q, cond_dec q2, w, if_neg c, hs, Int.toNat_natCast, et, wrap_succ (k := k) (by omega)]
    rw [cond_dec (by simp only [List.length_cons, List.length_nil]; omega), ← tab_succ]
    rfl) (by
    have q : ¬ ((n : Int) < (n : Int)) := by omega
    simp only [okc_L0_step, o2, tab_length, cond_not q]) (by rw [Int.toNat_natCast]; omega)
  exact ⟨by unfold okc_L0_p; rw [h]; rfl, by unfold okc_L0_v loopRes; rw [h]; rfl⟩
theorem loc_true (A B C r h t a b m : Int) : loc_res A B C r h t a b m = some true := by
  have fin : ∀ (w' e : Int) (p s : List (List Ct)), okc_res 1 a b m t m r h A B C = some (w', e, p) → rci_res A B C r h t a b m = some (w', e, s) → kOf p = kOf s → p.length ≤ 40 → loc_res A B C r h t a b m = some true := by
    intro w' e p s h1 h2 h3 h4
    have v1 : okc_v 1 a b m t m r h A B C = (w', e, p) := by unfold okc_v; rw [h1]; rfl
    have v2 : rci_v A B C r h t a b m = (w', e, s) := by unfold rci_v; rw [h2]; rfl
    obtain ⟨i1, i2, i3⟩ := is_ok (w := w') h3 (by omega)
    unfold loc_res
    simp only [h1, h2, v1, v2, Option.isSome_some, cond_true, beq_self_eq_true, i1, i2, i3]
  by_cases c1 : m < 2
  · exact fin 0 1 [] [] (by simp only [okc_res, cond_dec c1]) (by simp only [rci_res, cond_dec c1]) rfl (by simp)
  by_cases c2 : m > 16
  · exact fin 0 1 [] [] (by simp only [okc_res, cond_not c1, cond_dec c2]) (by simp only [rci_res, cond_not c1, cond_dec c2]) rfl (by simp)
  by_cases c3 : a ≥ b
  · exact fin 0 1 [] [] (by simp only [okc_res, cond_not c1, cond_not c2, cond_dec c3]) (by simp only [rci_res, cond_not c1, cond_not c2, cond_dec c3]) rfl (by simp)
  obtain ⟨n, rfl⟩ : ∃ n : Nat, m = n := ⟨m.toNat, by omega⟩
  have n2 : 2 ≤ n := by omega
  have n16 : n ≤ 16 := by omega
  obtain ⟨o1, o2⟩ := osp_ok (a := a) (b := b) n2 n16
  obtain ⟨k1, k2⟩ := okc_rows (A := A) (B := B) (C := C) (r := r) (h := h) (t := t) (a := a) (b := b) n2 n16
  obtain ⟨r1, r2⟩ := rci_rows (A := A) (B := B) (C := C) (r := r) (h := h) (t := t) (a := a) (b := b) n2 n16
  have hr : (tab (gCi A B C r h t a b n) n).length = n := tab_length _ _
  obtain ⟨w', e, p, s, ⟨t1, t2⟩, ⟨t3, t4⟩, t5, t6, _, _⟩ := make_ok (w := 1) (a := tab (gCi A B C r h t a b n) n) (b := tab (gCi A B C r h t a b n) n) (by omega) (by omega) (stb_few (by omega) (by omega)) rfl
  refine fin w' e p s ?_ ?_ t5 t6
  · unfold okc_res
    simp only [cond_not c1, cond_not c2, cond_not c3, o1, Option.isSome_some, k1, k2, cond_true, t1, t2]
  · unfold rci_res
    simp only [cond_not c1, cond_not c2, cond_not c3, r1, r2, cond_true, t3, t4, Option.isSome_some]
theorem loc_call (A B C r h t a b m : Int) : CallOk Try.prog 4 [.sv (.agg [.val false (.int .i64 A), .val false (.int .i64 B), .val false (.int .i64 C)]), .sv (.one (.val false (.int .i64 r))), .sv (.one (.val false (.int .i64 h))), .sv (.one (.val false (.int .i64 t))), .sv (.one (.val false (.int .i64 a))), .sv (.one (.val false (.int .i64 b))), .sv (.one (.val false (.int .i64 m)))] [] 0 (loc_O true) := loc_tree (loc_true A B C r h t a b m)
end Go.Proofs.Ytigjlhhglhbbpaa
