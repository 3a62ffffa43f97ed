/- Tracks later, from their ends on, shaken, in plain numbers. No condition. -/
import Derived.Test.YtigjlhhglhbbpaaEngOrbitC
import Derived.Test.YtigjlhhglhbbpaaSortLaw
import Derived.Test.YtigjlhhglhbbpaaTrackC
import Derived.Test.YtigjlhhglhbbpaaOrbitMap
import Derived.Test.YtigjlhhglhbbpaaOrbitTurnsT
set_option linter.unusedVariables false
set_option linter.unusedSimpArgs false
namespace Go.Proofs.Ytigjlhhglhbbpaa
open Go.RowKit

def laF (by' : Int) (k : Nat) (x : K4) : K4 := (IntKind.i64.wrap (x.1 + by'), x.2)
def baF (t0 t1 : Int) (k : Nat) (x : K4) : K4 := (IntKind.i64.wrap (IntKind.i64.wrap (t0 + t1) - x.1), x.2)
noncomputable def skF (seed by' : Int) (k : Nat) (x : K4) : K4 := (x.1, addS x.2.1 (mulS by' (subS (IntKind.i64.wrap ((2 : Int) * unitS seed k 0 0 0)) 65536)), addS x.2.2.1 (mulS by' (subS (IntKind.i64.wrap ((2 : Int) * unitS seed k 0 0 1)) 65536)), addS x.2.2.2 (mulS by' (subS (IntKind.i64.wrap ((2 : Int) * unitS seed k 0 0 2)) 65536)))
theorem getD_row {l : List (List Ct)} {A B : List K4} {x : K4} (h : kOf l = A ++ x :: B) : ((l.getD A.length []).getD 0 (.i 0)).int = x.1 ∧ ((l.getD A.length []).getD 1 (.i 0)).int = x.2.1 ∧ ((l.getD A.length []).getD 2 (.i 0)).int = x.2.2.1 ∧ ((l.getD A.length []).getD 3 (.i 0)).int = x.2.2.2 := by
  obtain ⟨h0, h1, h2, h3, _⟩ := kOf_at h
  exact ⟨h0, h1, h2, h3⟩
theorem upd_time {a : Int} {r : List Ct} {x : K4} (h : ((r.getD 1 (.i 0)).int = x.2.1 ∧ (r.getD 2 (.i 0)).int = x.2.2.1 ∧ (r.getD 3 (.i 0)).int = x.2.2.2)) : (((updRow 4 0 [.i a] r).getD 0 (.i 0)).int, ((updRow 4 0 [.i a] r).getD 1 (.i 0)).int, ((updRow 4 0 [.i a] r).getD 2 (.i 0)).int, ((updRow 4 0 [.i a] r).getD 3 (.i 0)).int) = (a, x.2) := by
  obtain ⟨h1, h2, h3⟩ := h
  show (a, (r.getD 1 (.i 0)).int, (r.getD 2 (.i 0)).int, (r.getD 3 (.i 0)).int) = (a, x.2)
  rw [h1, h2, h3]
theorem upd_value {a b c : Int} {r : List Ct} {x : K4} (h : (r.getD 0 (.i 0)).int = x.1) : (((updRow 4 1 [.i a, .i b, .i c] r).getD 0 (.i 0)).int, ((updRow 4 1 [.i a, .i b, .i c] r).getD 1 (.i 0)).int, ((updRow 4 1 [.i a, .i b, .i c] r).getD 2 (.i 0)).int, ((updRow 4 1 [.i a, .i b, .i c] r).getD 3 (.i 0)).int) = (x.1, a, b, c) := by
  show ((r.getD 0 (.i 0)).int, a, b, c) = _
  rw [h]
theorem ola_rows {P : List (List Ct)} {b : Int} (hb : P.length ≤ 1048576) : ola_L0_p P b = true ∧ kOf (ola_L0_v P b).2 = mapI (laF b) 0 (kOf P) := by
  obtain ⟨r, h1, h2⟩ := map_loop (step := ola_L0_step P b) (f := laF b) (n := P.length) (fun k l x A B hk hl hn hkn => by
    subst hk
    have q : (A.length : Int) < (P.length : Int) := by omega
    have q2 : (0 : Int) ≤ (A.length : Int) ∧ (A.length : Int) < (l.length : Int) := by omega
    obtain ⟨e0, e1, e2, e3, _⟩ := kOf_at hl
    refine ⟨_, by simp only [ola_L0_step, List.nil_append, cond_dec q, cond_dec q2, Int.toNat_natCast, e0, wrap_succ (k := A.length) (by omega)]; rfl, ?_⟩
    obtain ⟨_, g1, g2, g3⟩ := getD_row hl
    rw [kOf_set, upd_time ⟨g1, g2, g3⟩, hl, set_mid rfl]
    rfl) (fun l hn => by
    have q : ¬ ((P.length : Int) < (P.length : Int)) := by omega
    simp only [ola_L0_step, List.nil_append, cond_not q]) (kOf P) [] P (P.length + 1) rfl (by simp [kOf_length]) (by rw [kOf_length]; omega)
  have h1' : iter (ola_L0_step P b) (P.length + 1) (0, [] ++ P) = some ((P.length : Int), r) := h1
  exact ⟨by unfold ola_L0_p; rw [h1']; rfl, by unfold ola_L0_v loopRes; rw [h1']; simpa using h2⟩
theorem oba_rows {P : List (List Ct)} (h1 : 1 ≤ P.length) (hb : P.length ≤ 1048576) : oba_L0_p P = true ∧ kOf (oba_L0_v P).2 = mapI (baF (rd P 0 0).int (rd P (P.length - 1) 0).int) 0 (kOf P) := by
  have w : IntKind.i64.wrap ((P.length : Int) - 1) = ((P.length - 1 : Nat) : Int) := by rw [wrap_in (by omega) (by omega)]; omega
  obtain ⟨r, h1, h2⟩ := map_loop (step := oba_L0_step P) (f := baF (rd P 0 0).int (rd P (P.length - 1) 0).int) (n := P.length) (fun k l x A B hk hl hn hkn => by
    subst hk
    have q : (A.length : Int) < (P.length : Int) := by omega
    have q2 : (0 : Int) ≤ (A.length : Int) ∧ (A.length : Int) < (l.length : Int) := by omega
    obtain ⟨e0, e1, e2, e3, _⟩ := kOf_at hl
    refine ⟨_, by simp only [oba_L0_step, List.nil_append, cond_dec q, cond_dec q2, Int.toNat_natCast, e0, w, wrap_succ (k := A.length) (by omega)]; rfl, ?_⟩
    obtain ⟨_, g1, g2, g3⟩ := getD_row hl
    rw [kOf_set, upd_time ⟨g1, g2, g3⟩, hl, set_mid rfl]
    rfl) (fun l hn => by
    have q : ¬ ((P.length : Int) < (P.length : Int)) := by omega
    simp only [oba_L0_step, List.nil_append, cond_not q]) (kOf P) [] P (P.length + 1) rfl (by simp [kOf_length]) (by rw [kOf_length]; omega)
  have h1' : iter (oba_L0_step P) (P.length + 1) (0, [] ++ P) = some ((P.length : Int), r) := h1
  exact ⟨by unfold oba_L0_p; rw [h1']; rfl, by unfold oba_L0_v loopRes; rw [h1']; simpa using h2⟩
theorem osk_rows {P : List (List Ct)} {s b : Int} (hs : (Lit.int IntKind.u64 s).wf = true) (hb : P.length ≤ 1048576) : osk_L0_p P s b = true ∧ kOf (osk_L0_v P s b).2 = mapI (skF s b) 0 (kOf P) := by
  obtain ⟨r, h1, h2⟩ := map_loop (step := osk_L0_step P s b) (f := skF s b) (n := P.length) (fun k l x A B hk hl hn hkn => by
    subst hk
    have q : (A.length : Int) < (P.length : Int) := by omega
    have q2 : (0 : Int) ≤ (A.length : Int) ∧ (A.length : Int) < (l.length : Int) := by omega
    obtain ⟨e0, e1, e2, e3, _⟩ := kOf_at hl
    refine ⟨_, by simp only [osk_L0_step, List.nil_append, cond_dec q, cond_dec q2, hs, cond_true, Int.toNat_natCast, e1, e2, e3, wrap_succ (k := A.length) (by omega)]; rfl, ?_⟩
    obtain ⟨g0, _⟩ := getD_row hl
    rw [kOf_set, upd_value g0, hl, set_mid rfl]
    rfl) (fun l hn => by
    have q : ¬ ((P.length : Int) < (P.length : Int)) := by omega
    simp only [osk_L0_step, List.nil_append, cond_not q]) (kOf P) [] P (P.length + 1) rfl (by simp [kOf_length]) (by rw [kOf_length]; omega)
  have h1' : iter (osk_L0_step P s b) (P.length + 1) (0, [] ++ P) = some ((P.length : Int), r) := h1
  exact ⟨by unfold osk_L0_p; rw [h1']; rfl, by unfold osk_L0_v loopRes; rw [h1']; simpa using h2⟩
theorem rla_rows {x : List (List Ct)} {b : Int} (hb : x.length ≤ 1048576) : rla_L0_p x b = true ∧ kOf (rla_L0_v x b).2 = mapI (laF b) 0 (kOf x) := by
  have h := iter_run (step := rla_L0_step x b) (n := x.length) (m := x.length + 1) (r := ((x.length : Int), tab (fun k => [.i (IntKind.i64.wrap ((rd x k 0).int + b)), .i (rd x k 1).int, .i (rd x k 2).int, .i (rd x k 3).int]) x.length)) (v := (0, [])) (fun k => ((k : Int), tab (fun k => [.i (IntKind.i64.wrap ((rd x k 0).int + b)), .i (rd x k 1).int, .i (rd x k 2).int, .i (rd x k 3).int]) k)) rfl (fun k hk => by
    have q : (k : Int) < (x.length : Int) := by omega
    have q2 : (0 : Int) ≤ (k : Int) ∧ (k : Int) < (x.length : Int) := by omega
    simp only [rla_L0_step, cond_dec q, cond_dec q2, Int.toNat_natCast, wrap_succ (k := k) (by omega)]
    rw [cond_dec (by simp only [tab_length, List.length_cons, List.length_nil]; omega), ← tab_succ]) (by
    have q : ¬ ((x.length : Int) < (x.length : Int)) := by omega
    simp only [rla_L0_step, cond_not q]) (by omega)
  exact ⟨by unfold rla_L0_p; rw [h]; rfl, by unfold rla_L0_v loopRes; rw [h]; exact kOf_tab fun k hk => rfl⟩
theorem rsk_rows {x : List (List Ct)} {s b : Int} (hs : (Lit.int IntKind.u64 s).wf = true) (hb : x.length ≤ 1048576) : rsk_L0_p x s b = true ∧ kOf (rsk_L0_v x s b).2 = mapI (skF s b) 0 (kOf x) := by
  have h := iter_run (step := rsk_L0_step x s b) (n := x.length) (m := x.length + 1) (r := ((x.length : Int), tab (fun (k : Nat) => [Ct.i (rd x k 0).int, Ct.i (skF s b k ((rd x k 0).int, (rd x k 1).int, (rd x k 2).int, (rd x k 3).int)).2.1, Ct.i (skF s b k ((rd x k 0).int, (rd x k 1).int, (rd x k 2).int, (rd x k 3).int)).2.2.1, Ct.i (skF s b k ((rd x k 0).int, (rd x k 1).int, (rd x k 2).int, (rd x k 3).int)).2.2.2]) x.length)) (v := (0, [])) (fun k => ((k : Int), tab (fun (k : Nat) => [Ct.i (rd x k 0).int, Ct.i (skF s b k ((rd x k 0).int, (rd x k 1).int, (rd x k 2).int, (rd x k 3).int)).2.1, Ct.i (skF s b k ((rd x k 0).int, (rd x k 1).int, (rd x k 2).int, (rd x k 3).int)).2.2.1, Ct.i (skF s b k ((rd x k 0).int, (rd x k 1).int, (rd x k 2).int, (rd x k 3).int)).2.2.2]) k)) rfl (fun k hk => by
    have q : (k : Int) < (x.length : Int) := by omega
    have q2 : (0 : Int) ≤ (k : Int) ∧ (k : Int) < (x.length : Int) := by omega
    simp only [rsk_L0_step, cond_dec q, cond_dec q2, hs, cond_true, Int.toNat_natCast, wrap_succ (k := k) (by omega)]
    rw [cond_dec (by simp only [tab_length, List.length_cons, List.length_nil]; omega), ← tab_succ]
    rfl) (by
    have q : ¬ ((x.length : Int) < (x.length : Int)) := by omega
    simp only [rsk_L0_step, cond_not q]) (by omega)
  exact ⟨by unfold rsk_L0_p; rw [h]; rfl, by unfold rsk_L0_v loopRes; rw [h]; exact kOf_tab fun k hk => rfl⟩
theorem rba_rows {x : List (List Ct)} (h1 : 1 ≤ x.length) (hb : x.length ≤ 1048576) : rba_L0_p x = true ∧ kOf (rba_L0_v x).2 = (mapI (baF (rd x 0 0).int (rd x (x.length - 1) 0).int) 0 (kOf x)).reverse := by
  have w : IntKind.i64.wrap ((x.length : Int) - 1) = ((x.length - 1 : Nat) : Int) := by rw [wrap_in (by omega) (by omega)]; omega
  let g : Nat → List Ct := fun k => [.i (IntKind.i64.wrap (IntKind.i64.wrap ((rd x 0 0).int + (rd x (x.length - 1) 0).int) - (rd x k 0).int)), .i (rd x k 1).int, .i (rd x k 2).int, .i (rd x k 3).int]
  have h := iter_run (step := rba_L0_step x) (n := x.length) (m := x.length + 1) (r := ((-1 : Int), tab (fun k => g (x.length - 1 - k)) x.length)) (v := (IntKind.i64.wrap ((x.length : Int) - 1), [])) (fun k => ((x.length : Int) - 1 - (k : Int), tab (fun k => g (x.length - 1 - k)) k)) (by rw [w]; exact Prod.ext (by show ((x.length - 1 : Nat) : Int) = (x.length : Int) - 1 - ((0 : Nat) : Int); omega) rfl) (fun k hk => by
    have e : (x.length : Int) - 1 - (k : Int) = ((x.length - 1 - k : Nat) : Int) := by omega
    have q0 : (x.length : Int) - 1 - (k : Int) ≥ 0 := by omega
    have q1 : (0 : Int) ≤ 0 ∧ (0 : Int) < (x.length : Int) := by omega
    have q2 : (0 : Int) ≤ ((x.length - 1 : Nat) : Int) ∧ ((x.length - 1 : Nat) : Int) < (x.length : Int) := by omega
    have q3 : (0 : Int) ≤ ((x.length - 1 - k : Nat) : Int) ∧ ((x.length - 1 - k : Nat) : Int) < (x.length : Int) := by omega
    have w2 : IntKind.i64.wrap (((x.length - 1 - k : Nat) : Int) - 1) = (x.length : Int) - 1 - ((k + 1 : Nat) : Int) := by rw [wrap_in (by omega) (by omega)]; omega
    have z : Int.toNat (0 : Int) = 0 := rfl
    rw [e]
    rw [e] at q0
    simp only [rba_L0_step, cond_dec q0, cond_dec q1, w, cond_dec q2, cond_dec q3, Int.toNat_natCast, z, w2]
    rw [cond_dec (by simp only [tab_length, List.length_cons, List.length_nil]; omega), ← tab_succ]) (by
    have e : (x.length : Int) - 1 - (x.length : Int) = -1 := by omega
    have q : ¬ (-1 : Int) ≥ 0 := by omega
    simp only [e, rba_L0_step, cond_not q]) (by omega)
  exact ⟨by unfold rba_L0_p; rw [h]; rfl, by unfold rba_L0_v loopRes; rw [h]; exact kOf_tab_rev (g := g) fun k hk => rfl⟩
theorem rd_setR {l : List (List Ct)} {i m j : Nat} {r : List Ct} (hi : i < l.length) : rd (l.set i r) m j = if m = i then r.getD j (.i 0) else rd l m j := by
  unfold rd
  by_cases h : m = i
  · subst h
    rw [if_pos rfl]
    simp [List.getD, hi]
  · rw [if_neg h]
    have : i ≠ m := fun e => h e.symm
    simp [List.getD, List.getElem?_set_ne this]
/-- The rows are turned round. -/
theorem srv_it {P : List (List Ct)} (hb : P.length ≤ 1048576) : ∀ (d i : Nat) (l : List (List Ct)) (fuel : Nat), P.length ≤ 2 * i + d → d < fuel → l.length = P.length → 2 * i ≤ P.length + 1 → (1 ≤ P.length) →
    (∀ m, m < P.length → ∀ j, j < 4 → (rd l m j).int = (rd P (if m < i ∨ P.length - i ≤ m then P.length - 1 - m else m) j).int) →
    ∃ c c' r, iter srv_L0_step fuel ((i : Int), (P.length : Int) - 1 - (i : Int), l) = some (c, c', r) ∧ r.length = P.length ∧ ∀ m, m < P.length → ∀ j, j < 4 → (rd r m j).int = (rd P (P.length - 1 - m) j).int := by
  intro d
  induction d using Nat.strongRecOn with
  | _ d ih =>
    intro i l fuel hd hf hl hi h1 h
    obtain ⟨fuel, rfl⟩ : ∃ k, fuel = k + 1 := ⟨fuel - 1, by omega⟩
    by_cases c : (i : Int) < (P.length : Int) - 1 - (i : Int)
    · have e : (P.length : Int) - 1 - (i : Int) = ((P.length - 1 - i : Nat) : Int) := by omega
      have q1 : (0 : Int) ≤ ((P.length - 1 - i : Nat) : Int) ∧ ((P.length - 1 - i : Nat) : Int) < (l.length : Int) := by omega
      have q2 : (0 : Int) ≤ (i : Int) ∧ (i : Int) < (l.length : Int) := by omega
      have w1 := wrap_succ (k := i) (by omega)
      have w2 : IntKind.i64.wrap (((P.length - 1 - i : Nat) : Int) - 1) = (P.length : Int) - 1 - ((i + 1 : Nat) : Int) := by rw [wrap_in (by omega) (by omega)]; omega
      have hst : srv_L0_step ((i : Int), (P.length : Int) - 1 - (i : Int), l) = some (.inl (((i + 1 : Nat) : Int), (P.length : Int) - 1 - ((i + 1 : Nat) : Int), (l.set i [.i (rd l (P.length - 1 - i) 0).int, .i (rd l (P.length - 1 - i) 1).int, .i (rd l (P.length - 1 - i) 2).int, .i (rd l (P.length - 1 - i) 3).int]).set (P.length - 1 - i) [.i (rd l i 0).int, .i (rd l i 1).int, .i (rd l i 2).int, .i (rd l i 3).int])) := by
        rw [e]
        rw [e] at c
        simp only [srv_L0_step, cond_dec c, cond_dec q1, cond_dec q2, Int.toNat_natCast, List.length_set, upd4, w1, w2]
      rw [iter_inl hst]
      refine ih (d - 1) (by omega) (i + 1) _ fuel (by omega) (by omega) (by simp [hl]) (by omega) h1 (fun m hm j hj => ?_)
      have cell : ∀ (a b c d : Int), j < 4 → (([Ct.i a, .i b, .i c, .i d] : List Ct).getD j (.i 0)).int = if j = 0 then a else if j = 1 then b else if j = 2 then c else d := by
        intro a b c d hj
        have : j = 0 ∨ j = 1 ∨ j = 2 ∨ j = 3 := by omega
        rcases this with rfl | rfl | rfl | rfl <;> rfl
      rw [rd_setR (by rw [List.length_set]; omega), rd_setR (by omega)]
      have pick : ∀ q, (if j = 0 then (rd l q 0).int else if j = 1 then (rd l q 1).int else if j = 2 then (rd l q 2).int else (rd l q 3).int) = (rd l q j).int := by
        intro q
        have : j = 0 ∨ j = 1 ∨ j = 2 ∨ j = 3 := by omega
        rcases this with rfl | rfl | rfl | rfl <;> rfl
      by_cases m1 : m = P.length - 1 - i
      · rw [if_pos m1, cell _ _ _ _ hj, pick, h i (by omega) j hj, if_neg (by omega), if_pos (by omega)]
        rw [show P.length - 1 - m = i by omega]
      · rw [if_neg m1]
        by_cases m2 : m = i
        · rw [if_pos m2, cell _ _ _ _ hj, pick, h (P.length - 1 - i) (by omega) j hj, if_neg (by omega), if_pos (by omega)]
          rw [m2]
        · rw [if_neg m2, h m hm j hj]
          by_cases m3 : m < i ∨ P.length - i ≤ m
          · rw [if_pos m3, if_pos (by omega)]
          · rw [if_neg m3, if_neg (by omega)]
    · refine ⟨_, _, l, iter_inr (r := ((i : Int), (P.length : Int) - 1 - (i : Int), l)) (by simp only [srv_L0_step, cond_not c]), hl, fun m hm j hj => ?_⟩
      rw [h m hm j hj]
      by_cases m3 : m < i ∨ P.length - i ≤ m
      · rw [if_pos m3]
      · rw [if_neg m3, show P.length - 1 - m = m by omega]
theorem srv_ok {P : List (List Ct)} (h1 : 1 ≤ P.length) (hb : P.length ≤ 1048576) : ∃ r, srv_res P = some r ∧ srv_v P = r ∧ kOf r = (kOf P).reverse := by
  obtain ⟨c, c', r, g1, g2, g3⟩ := srv_it hb P.length 0 P (P.length + 1) (by omega) (by omega) rfl (by omega) h1 (fun m hm j hj => by rw [if_neg (by omega)])
  have w : IntKind.i64.wrap ((P.length : Int) - 1) = (P.length : Int) - 1 - ((0 : Nat) : Int) := by rw [wrap_in (by omega) (by omega)]; omega
  have g1' : iter srv_L0_step (P.length + 1) (0, IntKind.i64.wrap ((P.length : Int) - 1), P) = some (c, c', r) := by rw [w]; exact g1
  have hr : srv_res P = some r := by
    have p1 : srv_L0_p P = true := by unfold srv_L0_p; rw [g1']; rfl
    unfold srv_res
    rw [p1]
    unfold srv_L0_v loopRes
    rw [g1']
    rfl
  refine ⟨r, hr, by unfold srv_v; rw [hr]; rfl, ?_⟩
  apply List.ext_getElem?
  intro i
  by_cases hi : i < P.length
  · rw [kOf_rd (by omega), List.getElem?_reverse (by rw [kOf_length]; exact hi), kOf_length, kOf_rd (by omega), g3 i hi 0 (by omega), g3 i hi 1 (by omega), g3 i hi 2 (by omega), g3 i hi 3 (by omega)]
  · rw [List.getElem?_eq_none (by rw [kOf_length]; omega), List.getElem?_eq_none (by rw [List.length_reverse, kOf_length]; omega)]
end Go.Proofs.Ytigjlhhglhbbpaa
