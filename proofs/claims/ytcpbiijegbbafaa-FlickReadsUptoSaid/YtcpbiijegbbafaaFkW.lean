/- The kinds of what Encode laid; the document's Encode, in plain numbers. No condition. -/
import Derived.Test.YtcpbiijegbbafaaFkPlain
import Derived.Test.YtcpbiijegbbafaaEngFk9
import Derived.Test.YtcpbiijegbbafaaEngFk7
import Derived.Test.YtcpbiijegbbafaaEngFkL
import Derived.Test.YtcpbiijegbbafaaJobNumD
set_option linter.unusedVariables false
set_option linter.unusedSimpArgs false
namespace Go.Proofs.Ytcpbiijegbbafaa
open Go.RowKit

/-- The kind of the frame at a place. -/
noncomputable def kdI (x0 : List (List Ct)) : Nat → Int
  | 0 => 0
  | i + 1 => (frg_v (fxR x0 (i + 1)) (fxR x0 i)).1
noncomputable def kdR (x0 : List (List Ct)) (k : Nat) : List (List Ct) := (List.range k).map fun i => [Ct.i (kdI x0 i)]
theorem kdR_succ {x0 : List (List Ct)} {k : Nat} : kdR x0 (k + 1) = kdR x0 k ++ [[Ct.i (kdI x0 k)]] := by simp [kdR, List.range_succ]
theorem kdR_length {x0 : List (List Ct)} {k : Nat} : (kdR x0 k).length = k := by simp [kdR]
theorem fxR_length {x0 : List (List Ct)} {k : Nat} (g : FkGood x0 k) : 3 ≤ (fxR x0 k).length ∧ (fxR x0 k).length ≤ 12288 := by
  have gl := g.len
  have fl : (fxR x0 k).length = 3 * (rd x0 k 2).rows.length := flR_length _
  omega
theorem fxR_same {x0 : List (List Ct)} {k j : Nat} (g : FkGood x0 k) (h : FkGood x0 j) : (fxR x0 k).length = (fxR x0 j).length := by
  have gs := g.same h
  have fl : (fxR x0 k).length = 3 * (rd x0 k 2).rows.length := flR_length _
  have fl2 : (fxR x0 j).length = 3 * (rd x0 j 2).rows.length := flR_length _
  omega
theorem fkF_shape {x0 : List (List Ct)} {k : Nat} (hG : ∀ j, j ≤ k → FkGood x0 j) : ∃ z : List Int, fkF x0 k = kdI x0 k :: (byt 4 (IntKind.u64.wrap ((z.length : Nat) : Int)) ++ z) ∧ z.length ≤ 20000 ∧ (kdI x0 k = 0 ∨ kdI x0 k = 1) := by
  cases k with
  | zero =>
    have l := fxR_length (hG 0 (by omega))
    obtain ⟨n1, n2, n3⟩ := frn_is (x := fxR x0 0) (by omega)
    have n4 : frn_v (fxR x0 0) = pprs_v (fxR x0 0) := by unfold frn_v; rw [n1]; rfl
    exact ⟨col (frn_v (fxR x0 0)), by rw [fkF, kdI, col_length], by rw [col_length, n4]; omega, .inl rfl⟩
  | succ k =>
    have l := fxR_length (hG (k + 1) (by omega))
    have ls := fxR_same (hG k (by omega)) (hG (k + 1) (by omega))
    obtain ⟨e, z, n1, n2, n3, n4⟩ := frg_is (x := fxR x0 (k + 1)) (w := fxR x0 k) (by omega) (by omega) (by omega)
    refine ⟨col (frg_v (fxR x0 (k + 1)) (fxR x0 k)).2, by rw [fkF, kdI, col_length], by rw [col_length, n2]; show z.length ≤ _; omega, ?_⟩
    rw [kdI, n2]
    rcases n3 with ⟨h, _⟩ | ⟨h, _⟩
    · exact .inl h
    · exact .inr h
theorem fki_it {B x0 : List (List Ct)} {w h : Int} {hb : List (List Ct)} (hn : x0.length ≤ 32) (hG : ∀ j, j < x0.length → FkGood x0 j) (hc : fki_c6100797 B = ((x0.length : Int), 0, w, h, hb)) : ∀ (d k fuel : Nat) (b : List (List Ct)), k + d = x0.length → d < fuel → Byt (col b) → col b = fkFs x0 k d →
    ∃ b', iter (fki_L0_step B) fuel ((k : Int), (0 : Int), b, kdR x0 k) = some ((x0.length : Int), (0 : Int), b', kdR x0 x0.length) := by
  intro d
  induction d with
  | zero =>
    intro k fuel b hk hf hb1 hb2
    obtain ⟨fuel, rfl⟩ : ∃ m, fuel = m + 1 := ⟨fuel - 1, by omega⟩
    obtain rfl : k = x0.length := by omega
    have q : ¬ ((x0.length : Int) < (x0.length : Int)) := by omega
    exact ⟨b, iter_inr (by simp only [fki_L0_step, hc, cond_not q])⟩
  | succ d ih =>
    intro k fuel b hk hf hb1 hb2
    obtain ⟨fuel, rfl⟩ : ∃ m, fuel = m + 1 := ⟨fuel - 1, by omega⟩
    obtain ⟨z, f1, f2, f3⟩ := fkF_shape (x0 := x0) (k := k) (fun j hj => hG j (by omega))
    rw [fkFs, f1, List.cons_append] at hb2
    obtain ⟨b1, g1, g2, g3⟩ := krby hb1 (by omega) (by omega) hb2
    have hb3 : Byt (col b1) := by rw [g3]; rw [hb2] at hb1; exact kright (s := [kdI x0 k]) hb1
    obtain ⟨p, b2, h1, h2, h3, h4⟩ := krbl (M := 262144) (z := z) (t := fkFs x0 (k + 1) d) hb3 (by omega) (by omega) (by rw [g3, List.append_assoc])
    have hb4 : Byt (col b2) := by
      rw [h4]; rw [g3, List.append_assoc] at hb3
      exact kright (kright hb3)
    have q : (k : Int) < (x0.length : Int) := by omega
    have lk : (kdR x0 k).length = k := kdR_length
    have st : fki_L0_step B ((k : Int), (0 : Int), b, kdR x0 k) = some (.inl (((k + 1 : Nat) : Int), (0 : Int), b2, kdR x0 (k + 1))) := by
      simp only [fki_L0_step, fki_c21420306, hc, cond_dec q, g1, g2, h1, h2, Option.isSome_some, cond_true]
      rw [wrap_succ (by omega), kdR_succ]
      exact ob_step (by simp only [List.length_cons, List.length_nil, lk]; omega) rfl
    rw [iter_inl st]
    exact ih (k + 1) fuel b2 (by omega) (by omega) hb4 h4
theorem fki_is {B x0 : List (List Ct)} (h0 : 1 ≤ x0.length) (hn : x0.length ≤ 32) (hG : ∀ j, j < x0.length → FkGood x0 j) (hB : ∀ j, j < x0.length → Byt (col (fxR x0 j))) (hl : B.length ≤ 700000) (hc : col B = [70, 76, 75, 49, (rd x0 0 0).int, (rd x0 0 1).int, (x0.length : Int)] ++ fkFs x0 0 x0.length) : fki_res B = some (0, kdR x0 x0.length) := by
  obtain ⟨g1, g2, _, _⟩ := hG 0 (by omega)
  have hBB : Byt (col B) := by
    rw [hc]
    exact kapp (kcons (by omega) (kcons (by omega) (kcons (by omega) (kcons (by omega) (kcons (by omega) (kcons (by omega) (kcons (by omega) (fun y hy => absurd hy (by simp))))))))) (fkFs_byt hG hB x0.length 0 (by omega))
  have q0 : rrd_res B = some ([] ++ B) := by unfold rrd_res; exact ob_step (by omega) rfl
  have q1 : rrd_v B = B := by unfold rrd_v; rw [q0]; rfl
  obtain ⟨hb, a1, a2, a3, a4⟩ := fhd_laid (b := B) hBB g1.1 g1.2 (by omega) hc
  have hcc : fki_c6100797 B = ((x0.length : Int), 0, (rd x0 0 0).int, (rd x0 0 1).int, hb) := by unfold fki_c6100797; rw [q1]; exact a2
  have d1 := fde_is h0 hn hG hB hl hc
  have d2 : fde_v B = (0, pcR x0 (rd x0 0 2).rows.length x0.length) := by unfold fde_v; rw [d1]; rfl
  obtain ⟨b', hi⟩ := fki_it (B := B) hn hG hcc x0.length 0 300 hb (by omega) (by omega) a4 a3
  rw [show ((0 : Nat) : Int) = 0 from rfl, show kdR x0 0 = [] from rfl] at hi
  have pv : fki_L0_p B = true := by unfold fki_L0_p; rw [hcc, hi]; rfl
  have vv : fki_L0_v B = ((x0.length : Int), (0 : Int), b', kdR x0 x0.length) := by unfold fki_L0_v loopRes; rw [hcc, hi]; rfl
  simp only [fki_res, d1, d2, q0, q1, a1, pv, vv, Option.isSome_some, cond_true, bne_self_eq_false, cond_false]
theorem isa_same {a : List (List Ct)} (h : a.length ≤ 5000) : isa_res a a = some true := by
  have it : iter (isa_L0_step a a) (a.length + 1) (0 : Int) = some (.inl (a.length : Int)) := by
    refine iter_run (fun k => (k : Int)) (n := a.length) rfl (fun k hk => ?_) ?_ (by omega)
    · have q : (k : Int) < (a.length : Int) := by omega
      have q1 : (0 : Int) ≤ (k : Int) ∧ (k : Int) < (a.length : Int) := by omega
      simp only [isa_L0_step, cond_dec q, cond_dec q1, bne_self_eq_false, cond_false]
      rw [wrap_succ (by omega)]
    · have q : ¬ ((a.length : Int) < (a.length : Int)) := by omega
      simp only [isa_L0_step, cond_not q]
  have pv : isa_L0_p a a = true := by unfold isa_L0_p; rw [it]; rfl
  have vv : isa_L0_v a a = .inl (a.length : Int) := by unfold isa_L0_v; rw [it]; rfl
  simp only [isa_res, pv, vv, isL, bne_self_eq_false, cond_false, cond_true]
/-! ### The document's -/
theorem rfla_is {x : List (List Ct)} (h : x.length ≤ 50000) : rfla_res x = some (flR x) := by
  have r : iter (rfla_L0_step x) (x.length + 1) (0, []) = some ((x.length : Int), flR x) := by
    refine iter_run (fun k => ((k : Int), flR (x.take k))) (n := x.length) (by simp [flR]) (fun k hk => ?_) ?_ (by omega)
    · have q : (k : Int) < (x.length : Int) := by omega
      have q2 : (0 : Int) ≤ (k : Int) ∧ (k : Int) < (x.length : Int) := by omega
      have l1 : (flR (x.take k)).length ≤ 3 * x.length := by rw [flR_length, List.length_take]; omega
      simp only [rfla_L0_step, Int.toNat_natCast]
      rw [cond_dec q, cond_dec q2, wrap_succ (by omega), flR_take hk]
      simp only [cond_dec q2]
      rw [cond_dec (by simp only [List.length_cons, List.length_nil]; omega)]
    · have q : ¬ ((x.length : Int) < (x.length : Int)) := by omega
      simp only [rfla_L0_step, List.take_length]
      rw [cond_not q]
  unfold rfla_res rfla_L0_p rfla_L0_v loopRes
  rw [r]
  rfl
theorem rfla_v_is {x : List (List Ct)} (h : x.length ≤ 50000) : rfla_v x = flR x := by unfold rfla_v; rw [rfla_is h]; rfl
def rxR (a b : List (List Ct)) (k : Nat) : List (List Ct) := (List.range k).map fun i => [Ct.i (xb (rd a i 0).int (rd b i 0).int)]
theorem rxo_is {a b : List (List Ct)} (h : a.length ≤ b.length) (hl : a.length ≤ 50000) : rxo_res a b = some (rxR a b a.length) := by
  have r : iter (rxo_L0_step a b) (a.length + 1) (0, []) = some ((a.length : Int), rxR a b a.length) := by
    refine iter_run (fun k => ((k : Int), rxR a b k)) (n := a.length) rfl (fun k hk => ?_) ?_ (by omega)
    · have q : (k : Int) < (a.length : Int) := by omega
      have q1 : (0 : Int) ≤ (k : Int) ∧ (k : Int) < (a.length : Int) := by omega
      have q2 : (0 : Int) ≤ (k : Int) ∧ (k : Int) < (b.length : Int) := by omega
      have lk : (rxR a b k).length = k := by simp [rxR]
      have e : rxR a b (k + 1) = rxR a b k ++ [[Ct.i (xb (rd a k 0).int (rd b k 0).int)]] := by simp [rxR, List.range_succ]
      simp only [rxo_L0_step, Int.toNat_natCast]
      rw [cond_dec q, cond_dec q1, cond_dec q2, wrap_succ (by omega), e]
      exact ob_step (by simp only [List.length_cons, List.length_nil, lk]; omega) rfl
    · have q : ¬ ((a.length : Int) < (a.length : Int)) := by omega
      simp only [rxo_L0_step]
      rw [cond_not q]
  unfold rxo_res rxo_L0_p rxo_L0_v loopRes
  rw [r]
  rfl
theorem rxR_is {a b : List (List Ct)} : rxR a b a.length = acrS a b a.length := by
  unfold rxR acrS
  exact List.map_congr_left fun i hi => by rw [if_pos (List.mem_range.1 hi)]
theorem rxo_v_is {a b : List (List Ct)} (h : a.length ≤ b.length) (hl : a.length ≤ 50000) : rxo_v a b = acrS a b a.length := by unfold rxo_v; rw [rxo_is h hl, ← rxR_is]; rfl
theorem rbo_is {r z : List (List Ct)} (hr : r.length ≤ 900000) (hz : z.length ≤ 50000) : (rbo_res r z).isSome = true ∧ (rbo_v r z).length = r.length + 4 + z.length ∧ col (rbo_v r z) = col r ++ (byt 4 (IntKind.u64.wrap (z.length : Int)) ++ col z) := by
  have w := u64_range (z.length : Int)
  obtain ⟨a1, a2, a3⟩ := rnm_ok (r := r) (x := IntKind.u64.wrap (z.length : Int)) 4 w.1 w.2 (by omega)
  rw [show (((4 : Nat)) : Int) = 4 from rfl] at a1 a2 a3
  have h : rbo_res r z = some (rnm_v r (IntKind.u64.wrap (z.length : Int)) (4 : Int) ++ z) := by
    simp only [rbo_res, rbo_c89558597, a1, cond_true]
    exact ob_step (by omega) rfl
  have hv : rbo_v r z = rnm_v r (IntKind.u64.wrap (z.length : Int)) (4 : Int) ++ z := by unfold rbo_v; rw [h]; rfl
  exact ⟨by rw [h]; rfl, by rw [hv, List.length_append, a2], by rw [hv, col_app, a3, List.append_assoc]⟩
theorem frg_eq {x w : List (List Ct)} (h : x.length ≤ 20000) (hw : w.length = x.length) (h0 : 1 ≤ x.length) : frg_v x w = if (pprs_v (acrS x w x.length)).length < (pprs_v x).length then (1, pprs_v (acrS x w x.length)) else (0, pprs_v x) := by
  obtain ⟨h1, h2, h3⟩ := pprs_is (x0 := x) h
  have a1 : acr_res x w = some (acrS x w x.length) := acr_is (by omega) (by omega)
  have a2 : acr_v x w = acrS x w x.length := by unfold acr_v; rw [a1]; rfl
  have la : (acrS x w x.length).length = x.length := acrS_length
  obtain ⟨g1, _, _⟩ := pprs_is (x0 := acrS x w x.length) (by omega)
  have c : 0 < w.length := by omega
  have e : frg_res x w = bif decide (((pprs_v (acrS x w x.length)).length : Int) < ((pprs_v x).length : Int)) then some (1, pprs_v (acrS x w x.length)) else some (0, pprs_v x) := by
    simp only [frg_res, frg_c90315573, h1, a1, a2, g1, cond_dec c, Option.isSome_some, cond_true]
  unfold frg_v
  by_cases q : ((pprs_v (acrS x w x.length)).length : Int) < ((pprs_v x).length : Int)
  · rw [e, cond_dec q, if_pos (by omega)]; rfl
  · rw [e, cond_not q, if_neg (by omega)]; rfl
theorem rprs_len {x : List (List Ct)} (h : x.length ≤ 20000) : rprs_L0_p x = true ∧ col (rprs_v x) = col (pprs_v x) ∧ (rprs_v x).length = (pprs_v x).length ∧ (pprs_v x).length ≤ x.length + (x.length + 127) / 128 := by
  obtain ⟨_, p2, _⟩ := pprs_is (x0 := x) h
  obtain ⟨r1, r2⟩ := rprs_is (x0 := x) h
  have e := r2.trans p2.symm
  exact ⟨r1, e, by rw [← col_length, e, col_length], (frn_is h).2.2⟩
/-- A round of the document's loop. -/
theorem rfe_step {x0 b : List (List Ct)} {k : Nat} (hk : k < x0.length) (hn : x0.length ≤ 32) (hb : b.length ≤ 800000) (hG : ∀ j, j < k → FkGood x0 j) :
    (FkGood x0 k → ∃ r, rfe_L0_step x0 ((k : Int), b, kdR x0 k) = some (.inl (((k + 1 : Nat) : Int), r, kdR x0 (k + 1))) ∧ col r = col b ++ fkF x0 k ∧ r.length ≤ b.length + 20000) ∧ (¬ FkGood x0 k → rfe_L0_step x0 ((k : Int), b, kdR x0 k) = some (.inr (.inr ()))) := by
  have q0 : (k : Int) < (x0.length : Int) := by omega
  have q1 : (0 : Int) ≤ (k : Int) ∧ (k : Int) < (x0.length : Int) := by omega
  have q2 : (0 : Int) ≤ (0 : Int) ∧ (0 : Int) < (x0.length : Int) := by omega
  have t0 : Int.toNat (0 : Int) = 0 := rfl
  have lk : (kdR x0 k).length = k := kdR_length
  refine ⟨fun g => ?_, fun g => ?_⟩
  · have gl := g.len
    have fl := fxR_length g
    have g' := g
    obtain ⟨g1, g2, g3, g4⟩ := g
    have m := mul64 g1
    have w : IntKind.i64.wrap ((rd x0 k 0).int * (rd x0 k 1).int) = (rd x0 k 0).int * (rd x0 k 1).int := wrap_in (by omega) (by omega)
    have e3 : ((rd x0 k 0).int != (rd x0 0 0).int) = false := by rw [g3]; exact bne_self_eq_false ..
    have e4 : ((rd x0 k 1).int != (rd x0 0 1).int) = false := by rw [g4]; exact bne_self_eq_false ..
    have f1 := rfla_is (x := (rd x0 k 2).rows) (by omega)
    have f2 : rfla_v (rd x0 k 2).rows = fxR x0 k := rfla_v_is (by omega)
    obtain ⟨p1, p2, p3, p4⟩ := rprs_len (x := fxR x0 k) (by omega)
    obtain ⟨l1, l2, l3⟩ := rbo_is (r := b ++ [[Ct.i (0 : Int)]]) (z := rprs_v (fxR x0 k)) (by simp; omega) (by omega)
    have lb : (b ++ [[Ct.i (0 : Int)]]).length = b.length + 1 := by simp
    cases k with
    | zero =>
      have q3 : ¬ (((0 : Nat) : Int) > 0) := by omega
      have n4 : frn_v (fxR x0 0) = pprs_v (fxR x0 0) := by unfold frn_v; rw [(frn_is (x := fxR x0 0) (by omega)).1]; rfl
      refine ⟨rbo_v (b ++ [[Ct.i (0 : Int)]]) (rprs_v (fxR x0 0)), ?_, ?_, by omega⟩
      · simp only [rfe_L0_step, rfe_c24115762, rfe_c6500298, rfe_c1894186, Int.toNat_natCast, t0, cond_dec q0, cond_dec q1, cond_dec q2, cond_not q3, w, g2, e3, e4, f1, f2, p1, l1, cond_dec (show (rd x0 0 0).int ≥ 1 from g1.1.1), cond_dec g1.1.2, cond_dec (show (rd x0 0 1).int ≥ 1 from g1.2.1), cond_dec g1.2.2, beq_self_eq_true, Bool.not_true, cond_false, cond_true, Option.isSome_some]
        rw [wrap_succ (by omega), kdR_succ]
        refine ob_step (by simp only [List.length_cons, List.length_nil, lk]; omega) ?_
        exact ob_step (by simp only [List.length_cons, List.length_nil]; omega) rfl
      · rw [l3, col_app, p2, p3, fkF, n4, List.append_assoc]; rfl
    | succ k =>
      have q3 : (((k + 1 : Nat) : Int) > 0) := by omega
      have gp := hG k (by omega)
      have ls := fxR_same gp g'
      have glp := gp.len
      have wk : IntKind.i64.wrap (((k + 1 : Nat) : Int) - (1 : Int)) = (k : Int) := by rw [wrap_in (by omega) (by omega)]; omega
      have q4 : (0 : Int) ≤ (k : Int) ∧ (k : Int) < (x0.length : Int) := by omega
      have f3 := rfla_is (x := (rd x0 k 2).rows) (by omega)
      have f4 : rfla_v (rd x0 k 2).rows = fxR x0 k := rfla_v_is (by omega)
      have a1 := rxo_is (a := fxR x0 (k + 1)) (b := fxR x0 k) (by omega) (by omega)
      have a2 : rxo_v (fxR x0 (k + 1)) (fxR x0 k) = acrS (fxR x0 (k + 1)) (fxR x0 k) (fxR x0 (k + 1)).length := rxo_v_is (by omega) (by omega)
      have la : (acrS (fxR x0 (k + 1)) (fxR x0 k) (fxR x0 (k + 1)).length).length = (fxR x0 (k + 1)).length := acrS_length
      obtain ⟨r1, r2, r3, r4⟩ := rprs_len (x := acrS (fxR x0 (k + 1)) (fxR x0 k) (fxR x0 (k + 1)).length) (by omega)
      obtain ⟨m1, m2, m3⟩ := rbo_is (r := b ++ [[Ct.i (1 : Int)]]) (z := rprs_v (acrS (fxR x0 (k + 1)) (fxR x0 k) (fxR x0 (k + 1)).length)) (by simp; omega) (by omega)
      have lb1 : (b ++ [[Ct.i (1 : Int)]]).length = b.length + 1 := by simp
      have fe := frg_eq (x := fxR x0 (k + 1)) (w := fxR x0 k) (by omega) (by omega) (by omega)
      by_cases c : (pprs_v (acrS (fxR x0 (k + 1)) (fxR x0 k) (fxR x0 (k + 1)).length)).length < (pprs_v (fxR x0 (k + 1))).length
      · rw [if_pos c] at fe
        have c' : ((rprs_v (acrS (fxR x0 (k + 1)) (fxR x0 k) (fxR x0 (k + 1)).length)).length : Int) < ((rprs_v (fxR x0 (k + 1))).length : Int) := by omega
        refine ⟨rbo_v (b ++ [[Ct.i (1 : Int)]]) (rprs_v (acrS (fxR x0 (k + 1)) (fxR x0 k) (fxR x0 (k + 1)).length)), ?_, ?_, by omega⟩
        · have ek : kdI x0 (k + 1) = 1 := by rw [kdI, fe]
          simp only [rfe_L0_step, rfe_c24115762, rfe_c56742259, rfe_c72013722, rfe_c60891125, rfe_c40403831, rfe_c1894186, Int.toNat_natCast, t0, wk, cond_dec q0, cond_dec q1, cond_dec q2, cond_dec q3, cond_dec q4, w, g2, e3, e4, f1, f2, f3, f4, a1, a2, p1, r1, m1, cond_dec c', cond_dec (show (rd x0 (k + 1) 0).int ≥ 1 from g1.1.1), cond_dec g1.1.2, cond_dec (show (rd x0 (k + 1) 1).int ≥ 1 from g1.2.1), cond_dec g1.2.2, beq_self_eq_true, Bool.not_true, cond_false, cond_true, Option.isSome_some]
          rw [wrap_succ (by omega), kdR_succ (k := k + 1), ek]
          refine ob_step (by simp only [List.length_cons, List.length_nil, lk]; omega) ?_
          exact ob_step (by simp only [List.length_cons, List.length_nil]; omega) rfl
        · rw [m3, col_app, r2, r3, fkF, fe, List.append_assoc]; rfl
      · rw [if_neg c] at fe
        have c' : ¬ ((rprs_v (acrS (fxR x0 (k + 1)) (fxR x0 k) (fxR x0 (k + 1)).length)).length : Int) < ((rprs_v (fxR x0 (k + 1))).length : Int) := by omega
        refine ⟨rbo_v (b ++ [[Ct.i (0 : Int)]]) (rprs_v (fxR x0 (k + 1))), ?_, ?_, by omega⟩
        · have ek : kdI x0 (k + 1) = 0 := by rw [kdI, fe]
          simp only [rfe_L0_step, rfe_c24115762, rfe_c56742259, rfe_c72013722, rfe_c60891125, rfe_c6500298, rfe_c1894186, Int.toNat_natCast, t0, wk, cond_dec q0, cond_dec q1, cond_dec q2, cond_dec q3, cond_dec q4, w, g2, e3, e4, f1, f2, f3, f4, a1, a2, p1, r1, l1, cond_not c', cond_dec (show (rd x0 (k + 1) 0).int ≥ 1 from g1.1.1), cond_dec g1.1.2, cond_dec (show (rd x0 (k + 1) 1).int ≥ 1 from g1.2.1), cond_dec g1.2.2, beq_self_eq_true, Bool.not_true, cond_false, cond_true, Option.isSome_some]
          rw [wrap_succ (by omega), kdR_succ (k := k + 1), ek]
          refine ob_step (by simp only [List.length_cons, List.length_nil, lk]; omega) ?_
          exact ob_step (by simp only [List.length_cons, List.length_nil]; omega) rfl
        · rw [l3, col_app, p2, p3, fkF, fe, List.append_assoc]; rfl
  · simp only [rfe_L0_step, Int.toNat_natCast, t0, cond_dec q0, cond_dec q1, cond_dec q2]
    by_cases c1 : (rd x0 k 0).int ≥ 1
    · by_cases c2 : (rd x0 k 0).int ≤ 64
      · by_cases c3 : (rd x0 k 1).int ≥ 1
        · by_cases c4 : (rd x0 k 1).int ≤ 64
          · have m := mul64 ⟨⟨c1, c2⟩, c3, c4⟩
            have w : IntKind.i64.wrap ((rd x0 k 0).int * (rd x0 k 1).int) = (rd x0 k 0).int * (rd x0 k 1).int := wrap_in (by omega) (by omega)
            simp only [cond_dec c1, cond_dec c2, cond_dec c3, cond_dec c4, w]
            by_cases c5 : ((rd x0 k 2).rows.length : Int) = (rd x0 k 0).int * (rd x0 k 1).int
            · have c6 : (((rd x0 k 2).rows.length : Int) == (rd x0 k 0).int * (rd x0 k 1).int) = true := beq_iff_eq.2 c5
              simp only [c6, Bool.not_true, cond_false]
              by_cases c7 : (rd x0 k 0).int = (rd x0 0 0).int
              · have e7 : ((rd x0 k 0).int != (rd x0 0 0).int) = false := by rw [c7]; exact bne_self_eq_false ..
                have e8 : ((rd x0 k 1).int != (rd x0 0 1).int) = true := bne_iff_ne.2 fun h => g ⟨⟨⟨c1, c2⟩, c3, c4⟩, c5, c7, h⟩
                simp only [e7, e8, cond_false, cond_true]
              · have e7 : ((rd x0 k 0).int != (rd x0 0 0).int) = true := bne_iff_ne.2 c7
                simp only [e7, cond_true]
            · have c6 : (((rd x0 k 2).rows.length : Int) == (rd x0 k 0).int * (rd x0 k 1).int) = false := beq_eq_false_iff_ne.2 c5
              simp only [c6, Bool.not_false, cond_true]
          · simp only [cond_dec c1, cond_dec c2, cond_dec c3, cond_not c4]
        · simp only [cond_dec c1, cond_dec c2, cond_not c3]
      · simp only [cond_dec c1, cond_not c2]
    · simp only [cond_not c1]
theorem rfe_it {x0 : List (List Ct)} {H : List Int} (hn : x0.length ≤ 32) : ∀ (d k fuel : Nat) (b : List (List Ct)), k + d = x0.length → d < fuel → (∀ j, j < k → FkGood x0 j) → col b = H ++ fkFs x0 0 k → b.length ≤ 1000 + k * 20000 →
    (∃ r, iter (rfe_L0_step x0) fuel ((k : Int), b, kdR x0 k) = some (.inl ((x0.length : Int), r, kdR x0 x0.length)) ∧ col r = H ++ fkFs x0 0 x0.length ∧ ∀ j, j < x0.length → FkGood x0 j) ∨ (iter (rfe_L0_step x0) fuel ((k : Int), b, kdR x0 k) = some (.inr ()) ∧ ∃ j, j < x0.length ∧ ¬ FkGood x0 j) := by
  intro d
  induction d with
  | zero =>
    intro k fuel b hk hf hg hc hl
    obtain ⟨fuel, rfl⟩ : ∃ m, fuel = m + 1 := ⟨fuel - 1, by omega⟩
    obtain rfl : k = x0.length := by omega
    have q : ¬ ((x0.length : Int) < (x0.length : Int)) := by omega
    exact .inl ⟨b, iter_inr (by simp only [rfe_L0_step, cond_not q]), hc, hg⟩
  | succ d ih =>
    intro k fuel b hk hf hg hc hl
    obtain ⟨fuel, rfl⟩ : ∃ m, fuel = m + 1 := ⟨fuel - 1, by omega⟩
    obtain ⟨s1, s2⟩ := rfe_step (x0 := x0) (b := b) (k := k) (by omega) hn (by omega) hg
    by_cases g : FkGood x0 k
    · obtain ⟨r, a1, a2, a3⟩ := s1 g
      rw [iter_inl a1]
      refine ih (k + 1) fuel r (by omega) (by omega) (fun j hj => ?_) ?_ (by omega)
      · rcases Nat.lt_or_ge j k with h | h
        · exact hg j h
        · obtain rfl : j = k := by omega
          exact g
      · rw [a2, hc, fkFs_snoc x0 k 0, List.append_assoc, Nat.zero_add]
    · exact .inr ⟨iter_inr (s2 g), k, by omega, g⟩
theorem rfe_is {x0 : List (List Ct)} (hx : x0.length ≤ 9000000000) : (rfe_res x0 = some (1, [], []) ∧ ¬ (1 ≤ x0.length ∧ x0.length ≤ 32 ∧ ∀ j, j < x0.length → FkGood x0 j)) ∨
    ∃ r, rfe_res x0 = some (0, r, kdR x0 x0.length) ∧ 1 ≤ x0.length ∧ x0.length ≤ 32 ∧ (∀ j, j < x0.length → FkGood x0 j) ∧ col r = [70, 76, 75, 49, (rd x0 0 0).int, (rd x0 0 1).int, (x0.length : Int)] ++ fkFs x0 0 x0.length := by
  by_cases c1 : x0.length = 0
  · exact .inl ⟨by unfold rfe_res; rw [c1]; rfl, fun h => by omega⟩
  have e1 : ((x0.length : Int) == 0) = false := by simpa using c1
  by_cases c2 : (x0.length : Int) > 32
  · exact .inl ⟨by unfold rfe_res; rw [e1, cond_false, cond_dec c2], fun h => by omega⟩
  have t0 : Int.toNat (0 : Int) = 0 := rfl
  have q2 : (0 : Int) ≤ (0 : Int) ∧ (0 : Int) < (x0.length : Int) := by omega
  obtain ⟨H, hH⟩ : ∃ H, H = [[Ct.i (70 : Int)], [Ct.i (76 : Int)], [Ct.i (75 : Int)], [Ct.i (49 : Int)]] ++ [[Ct.i (IntKind.u8.wrap (rd x0 0 0).int)], [Ct.i (IntKind.u8.wrap (rd x0 0 1).int)], [Ct.i (IntKind.u8.wrap (x0.length : Int))]] := ⟨_, rfl⟩
  have cH : col H = [70, 76, 75, 49, IntKind.u8.wrap (rd x0 0 0).int, IntKind.u8.wrap (rd x0 0 1).int, IntKind.u8.wrap (x0.length : Int)] := by rw [hH]; rfl
  have lH : H.length = 7 := by rw [hH]; rfl
  have key := rfe_it (x0 := x0) (H := col H) (by omega) x0.length 0 (x0.length + 1) H (by omega) (by omega) (fun j hj => by omega) (by simp [fkFs]) (by omega)
  rw [show ((0 : Nat) : Int) = 0 from rfl, show kdR x0 0 = [] from rfl] at key
  rcases key with ⟨r, h, h2, h3⟩ | ⟨h, j, hj, hnj⟩
  · refine .inr ⟨r, ?_, by omega, by omega, h3, ?_⟩
    · have pv : rfe_L0_p x0 = true := by unfold rfe_L0_p; rw [t0, ← hH, h]; rfl
      have vv : rfe_L0_v x0 = .inl ((x0.length : Int), r, kdR x0 x0.length) := by unfold rfe_L0_v; rw [t0, ← hH, h]; rfl
      unfold rfe_res
      simp only [t0, e1, cond_false, cond_not c2, cond_true, cond_dec q2, pv, vv, isL, getL]
      exact ob_step (by simp only [List.length_cons, List.length_nil]; omega) rfl
    · obtain ⟨⟨⟨g1, g2⟩, g3, g4⟩, _⟩ := h3 0 (by omega)
      rw [h2, cH, wrap_u8 (by omega) (by omega), wrap_u8 (by omega) (by omega), wrap_u8 (by omega) (by omega)]
  · refine .inl ⟨?_, fun hh => hnj (hh.2.2 j hj)⟩
    have pv : rfe_L0_p x0 = true := by unfold rfe_L0_p; rw [t0, ← hH, h]; rfl
    have vv : rfe_L0_v x0 = .inr () := by unfold rfe_L0_v; rw [t0, ← hH, h]; rfl
    unfold rfe_res
    simp only [t0, e1, cond_false, cond_not c2, cond_true, cond_dec q2, pv, vv, isL]
    exact ob_step (by simp only [List.length_cons, List.length_nil]; omega) rfl
end Go.Proofs.Ytcpbiijegbbafaa
