/- FkP, FkR, FkE, FkF, FkG, FkH, FkD, FkB, FkL, FkS, laid together. No condition. -/
import Derived.Test.YtcpbiijegbbafaaEngFk1
import Derived.Test.YtcpbiijegbbafaaPackL
import Derived.Test.YtcpbiijegbbafaaLoopA
import Derived.Test.YtcpbiijegbbafaaByt
import Derived.Test.YtcpbiijegbbafaaEngFk5
import Derived.Test.YtcpbiijegbbafaaPk
import Derived.Test.YtcpbiijegbbafaaReaderB
import Derived.Test.YtcpbiijegbbafaaEngFk3
import Derived.Test.YtcpbiijegbbafaaJobNum
import Derived.Test.YtcpbiijegbbafaaEngFk6
import Derived.Test.YtcpbiijegbbafaaEngFkM
/- A picture's bytes and bytes against others, as plain lists. No condition. -/
set_option linter.unusedVariables false
set_option linter.unusedSimpArgs false
namespace Go.Proofs.Ytcpbiijegbbafaa
open Go.RowKit

/-- The bytes of dots, as rows. -/
def flR (x : List (List Ct)) : List (List Ct) := x.flatMap fun r => [[Ct.i (r.getD 0 (.i 0)).int], [Ct.i (r.getD 1 (.i 0)).int], [Ct.i (r.getD 2 (.i 0)).int]]
theorem flR_length (x : List (List Ct)) : (flR x).length = 3 * x.length := by
  induction x with
  | nil => rfl
  | cons r t ih => unfold flR at *; simp only [List.flatMap_cons, List.length_append, List.length_cons, List.length_nil, ih]; omega
theorem flR_take {x : List (List Ct)} {k : Nat} (h : k < x.length) : flR (x.take (k + 1)) = flR (x.take k) ++ [[Ct.i (rd x k 0).int], [Ct.i (rd x k 1).int], [Ct.i (rd x k 2).int]] := by
  rw [List.take_add_one, List.getElem?_eq_getElem h]
  unfold flR
  rw [List.flatMap_append]
  congr 1
  simp only [Option.toList_some, List.flatMap_cons, List.flatMap_nil, List.append_nil, rd, List.getD_eq_getElem?_getD, List.getElem?_eq_getElem h, Option.getD_some]
theorem fla_run {x : List (List Ct)} (h : x.length ≤ 50000) : iter (fla_L0_step x) (x.length + 1) (0, []) = some ((x.length : Int), flR x) := by
  refine iter_run (fun k => ((k : Int), flR (x.take k))) (n := x.length) (by simp [flR]) (fun k hk => ?_) ?_ (by omega)
  · have q : (k : Int) < (x.length : Int) := by omega
    have q2 : (0 : Int) ≤ (k : Int) ∧ (k : Int) < (x.length : Int) := by omega
    have l1 : (flR (x.take k)).length ≤ 3 * x.length := by rw [flR_length, List.length_take]; omega
    simp only [fla_L0_step, Int.toNat_natCast]
    rw [cond_dec q, cond_dec q2, wrap_succ (by omega), flR_take hk, cond_dec (by simp only [List.length_cons, List.length_nil]; omega)]
    rfl
  · have q : ¬ ((x.length : Int) < (x.length : Int)) := by omega
    simp only [fla_L0_step, List.take_length]
    rw [cond_not q]
theorem fla_is {x : List (List Ct)} (h : x.length ≤ 50000) : fla_res x = some (flR x) := by
  have e : ((0 : Nat) : Int) = (0 : Int) := rfl
  unfold fla_res fla_L0_p fla_L0_v loopRes
  rw [fla_run h]
  rfl
theorem fla_v_is {x : List (List Ct)} (h : x.length ≤ 50000) : fla_v x = flR x := by unfold fla_v; rw [fla_is h]; rfl
/-- A byte against another. -/
def xb (x y : Int) : Int := IntKind.u8.wrap (((BitVec.ofInt IntKind.u8.bits x ^^^ BitVec.ofInt IntKind.u8.bits y).toNat : Nat) : Int)
theorem xb_range (x y : Int) : 0 ≤ xb x y ∧ xb x y < 256 := by unfold xb; rw [u8_mod]; omega
theorem xb_val (x y : Int) : xb x y = (((BitVec.ofInt 8 x ^^^ BitVec.ofInt 8 y).toNat : Nat) : Int) := by
  unfold xb
  have h : (BitVec.ofInt 8 x ^^^ BitVec.ofInt 8 y).toNat < 256 := (BitVec.ofInt 8 x ^^^ BitVec.ofInt 8 y).isLt
  exact wrap_u8 (by omega) (by show (((BitVec.ofInt 8 x ^^^ BitVec.ofInt 8 y).toNat : Nat) : Int) < 256; omega)
theorem xb_back {x y : Int} (h0 : 0 ≤ x) (h1 : x < 256) : xb (xb x y) y = x := by
  rw [xb_val (xb x y), xb_val x y]
  have e : BitVec.ofInt 8 (((BitVec.ofInt 8 x ^^^ BitVec.ofInt 8 y).toNat : Nat) : Int) = BitVec.ofInt 8 x ^^^ BitVec.ofInt 8 y := by
    rw [BitVec.ofInt_natCast, BitVec.ofNat_toNat, BitVec.setWidth_eq]
  rw [e, BitVec.xor_assoc, BitVec.xor_self, BitVec.xor_zero, BitVec.toNat_ofInt]
  omega
/-- Bytes against others, the first k of them. -/
def acrS (a b : List (List Ct)) (k : Nat) : List (List Ct) := (List.range a.length).map fun i => if i < k then [Ct.i (xb (rd a i 0).int (rd b i 0).int)] else a.getD i []
theorem acrS_length {a b : List (List Ct)} {k : Nat} : (acrS a b k).length = a.length := by simp [acrS]
theorem acrS_zero {a b : List (List Ct)} : acrS a b 0 = a := by
  refine List.ext_getElem (by simp [acrS]) (fun i h1 h2 => ?_)
  simp [acrS, List.getD_eq_getElem?_getD, List.getElem?_eq_getElem h2]
theorem acrS_succ {a b : List (List Ct)} {k : Nat} (h : k < a.length) : acrS a b (k + 1) = (acrS a b k).set k [Ct.i (xb (rd a k 0).int (rd b k 0).int)] := by
  refine List.ext_getElem (by simp [acrS]) (fun i h1 h2 => ?_)
  simp only [acrS, List.getElem_map, List.getElem_range, List.getElem_set]
  by_cases q : k = i
  · subst q; simp
  · by_cases q2 : i < k
    · rw [if_pos (by omega), if_neg q, if_pos q2]
    · rw [if_neg (by omega), if_neg q, if_neg q2]
theorem acrS_rd {a b : List (List Ct)} {k : Nat} (h : k < a.length) : (rd (acrS a b k) k 0).int = (rd a k 0).int := by
  simp [acrS, rd, List.getD_eq_getElem?_getD, List.getElem?_map, List.getElem?_range h]
theorem acr_is {a b : List (List Ct)} (h : a.length ≤ b.length) (hl : a.length ≤ 50000) : acr_res a b = some (acrS a b a.length) := by
  have r : iter (acr_L0_step a b) (a.length + 1) (0, ([] ++ a)) = some ((a.length : Int), acrS a b a.length) := by
    refine iter_run (fun k => ((k : Int), acrS a b k)) (n := a.length) (by simp [acrS_zero]) (fun k hk => ?_) ?_ (by omega)
    · have q : (k : Int) < (a.length : Int) := by omega
      have q2 : (0 : Int) ≤ (k : Int) ∧ (k : Int) < (b.length : Int) := by omega
      simp only [acr_L0_step, Int.toNat_natCast, List.nil_append]
      rw [cond_dec q, acrS_length, cond_dec (c := (0 : Int) ≤ (k : Int) ∧ (k : Int) < (a.length : Int)) (by omega), cond_dec q2, cond_dec (c := (0 : Int) ≤ (k : Int) ∧ (k : Int) < (a.length : Int)) (by omega), wrap_succ (by omega), acrS_rd hk, acrS_succ hk]
      rfl
    · have q : ¬ ((a.length : Int) < (a.length : Int)) := by omega
      simp only [acr_L0_step, List.nil_append]
      rw [cond_not q]
  unfold acr_res acr_L0_p acr_L0_v loopRes
  rw [r, cond_dec (by omega)]
  rfl
end Go.Proofs.Ytcpbiijegbbafaa

/- What was laid is read as it was laid: bytes, blobs, frames. No condition. -/
set_option linter.unusedVariables false
set_option linter.unusedSimpArgs false
namespace Go.Proofs.Ytcpbiijegbbafaa
open Go.RowKit

theorem kright {s t : List Int} (h : Byt (s ++ t)) : Byt t := fun y hy => h y (List.mem_append_right _ hy)
theorem kraw {b : List (List Ct)} {t : List Int} {n : Nat} {x : Int} (hB : Byt (col b)) (hn : n ≤ 8) (hc : col b = byt n (IntKind.u64.wrap x) ++ t) : ∃ b', rrw_res b 0 (n : Int) = some (x % ((256 ^ n : Nat) : Int), 0, b') ∧ rrw_v b 0 (n : Int) = (x % ((256 ^ n : Nat) : Int), 0, b') ∧ col b' = t := by
  obtain ⟨h1, h2⟩ := raw_ok hc
  rw [byt_length] at h1 h2
  rw [num_bytx n x hn] at h1
  exact ⟨_, by rw [rrw_is hB hn, h1], by rw [rrw_v_is hB hn, h1], h2⟩
theorem krtk {b : List (List Ct)} {s t : List Int} (hc : col b = s ++ t) : ∃ p b', rtk_res b 0 (s.length : Int) = some (0, b', p) ∧ rtk_v b 0 (s.length : Int) = (0, b', p) ∧ col p = s ∧ p.length = s.length ∧ col b' = t := by
  have hl : b.length = s.length + t.length := by rw [← col_length, hc, List.length_append]
  have h : rtk_res b 0 (s.length : Int) = some (0, partOf b (s.length : Int) (b.length : Int), partOf b (0 : Int) (s.length : Int)) := by
    rw [rtk_is, if_neg (by simp), if_neg (by omega)]
  have hp : col (partOf b (0 : Int) (s.length : Int)) = s := by rw [part_all, hc]; simp
  exact ⟨_, _, h, by unfold rtk_v; rw [h]; rfl, hp, by rw [← col_length, hp], by rw [part_rest, hc]; simp⟩
theorem krbl {b : List (List Ct)} {z t : List Int} {M : Int} (hB : Byt (col b)) (hM : M ≤ 1000000) (hP : (z.length : Int) ≤ M) (hc : col b = byt 4 (IntKind.u64.wrap (z.length : Int)) ++ (z ++ t)) : ∃ p b', rbl_res b 0 M = some (0, p, b') ∧ rbl_v b 0 M = (0, p, b') ∧ col p = z ∧ col b' = t := by
  obtain ⟨b1, g1, g2, g3⟩ := kraw hB (by omega) hc
  rw [show (((4 : Nat)) : Int) = 4 from rfl, show ((z.length : Int)) % ((256 ^ 4 : Nat) : Int) = (z.length : Int) by omega] at g1 g2
  obtain ⟨p, b2, k1, k2, k3, k4, k5⟩ := krtk g3
  have w : IntKind.i64.wrap (z.length : Int) = (z.length : Int) := wrap_in (by omega) (by omega)
  have q : ¬ ((z.length : Int) > if (0 : Int) > M then (0 : Int) else M) := by rw [if_neg (by omega)]; omega
  have hr : rbl_res b 0 M = some (0, [] ++ p, b2) := by
    unfold rbl_res
    simp only [g1, g2, w, cond_not q, k1, k2, Option.isSome_some, cond_true]
    refine ob_step (by omega) rfl
  exact ⟨_, b2, hr, by unfold rbl_v; rw [hr]; rfl, by rw [List.nil_append]; exact k3, k5⟩
theorem krby {b : List (List Ct)} {x : Int} {t : List Int} (hB : Byt (col b)) (h0 : 0 ≤ x) (h1 : x < 256) (hc : col b = x :: t) : ∃ b', rby_res b 0 = some (x, 0, b') ∧ rby_v b 0 = (x, 0, b') ∧ col b' = t := by
  obtain ⟨k1, k2⟩ := raw_ok (s := [x]) (t := t) (b := b) (by rw [hc]; rfl)
  have e : num [x] = x := by simp [num]
  rw [e] at k1
  have g1 : rrw_res b 0 (1 : Int) = some (x, 0, partOf b (1 : Int) (b.length : Int)) := (rrw_is (n := 1) hB (by omega)).trans (congrArg some k1)
  have g2 : rrw_v b 0 (1 : Int) = (x, 0, partOf b (1 : Int) (b.length : Int)) := (rrw_v_is (n := 1) hB (by omega)).trans k1
  have w : IntKind.i64.wrap x = x := wrap_in (by omega) (by omega)
  have hr : rby_res b 0 = some (x, 0, partOf b (1 : Int) (b.length : Int)) := by
    unfold rby_res
    simp only [g1, g2, w, Option.isSome_some, cond_true]
  exact ⟨_, hr, by unfold rby_v; rw [hr]; rfl, k2⟩
theorem wst_is {n : Nat} (h0 : 1 ≤ n) (h1 : n ≤ 50000) : wst_res (n : Int) = some ((n + (n + 127) / 128 : Nat) : Int) := by
  unfold wst_res
  rw [cond_not (c := (n : Int) ≤ 0) (by omega), cond_not (c := (n : Int) > 1073741824) (by omega)]
  rw [wrap_in (n := (n : Int) + 128) (by omega) (by omega), wrap_in (n := (n : Int) + 128 - 1) (by omega) (by omega), Int.tdiv_eq_ediv_of_nonneg (by omega), wrap_in (n := ((n : Int) + 128 - 1) / 128) (by omega) (by omega), wrap_in (by omega) (by omega)]
  refine congrArg some ?_
  omega
/-- Pressed bytes are spread as they were. -/
theorem kpsp {p : List (List Ct)} {s z : List Int} (hc : col p = z) (hp : Pk s z) (hB : Byt s) (hl : z.length ≤ 50000) (hs : s.length ≤ 50000) :
    ∃ q, psp_res p (s.length : Int) = some (0, q) ∧ psp_v p (s.length : Int) = (0, q) ∧ col q = s ∧ q.length = s.length := by
  have l : p.length = z.length := by rw [← hc, col_length]
  obtain ⟨h1, h2, h3⟩ := psp_is (x0 := p) (x1 := (s.length : Int)) (by omega) (by omega) (by omega) (by rw [hc]; exact hp.byt hB)
  have e : sprd (s.length : Int) p.length [] (col p) = .inl ([] ++ s) := by rw [hc]; exact hp.all _ _ (by omega) (by simp)
  rw [e] at h2 h3
  obtain ⟨v, hv⟩ := Option.isSome_iff_exists.1 h1
  have ev : psp_v p (s.length : Int) = v := by unfold psp_v; rw [hv]; rfl
  rw [ev] at h2 h3
  obtain ⟨v1, v2⟩ := v
  simp only [sprO, List.nil_append] at h2 h3
  subst h2
  exact ⟨v2, hv, ev, h3, by rw [← col_length, h3]⟩
/-- A whole frame is read. -/
theorem fbn_laid {b : List (List Ct)} {s z t : List Int} (hB : Byt (col b)) (hc : col b = 0 :: (byt 4 (IntKind.u64.wrap (z.length : Int)) ++ (z ++ t))) (hp : Pk s z) (hs : Byt s) (h0 : 1 ≤ s.length) (h1 : s.length ≤ 20000) (hz : z.length ≤ s.length + (s.length + 127) / 128) :
    ∃ q b', fbn_res b 0 (s.length : Int) = some (0, b', q) ∧ col q = s ∧ q.length = s.length ∧ col b' = t := by
  obtain ⟨b1, g1, g2, g3⟩ := krby hB (by omega) (by omega) hc
  have hB1 : Byt (col b1) := by rw [g3]; rw [hc] at hB; exact kright (s := [0]) hB
  have w1 := wst_is h0 (by omega : s.length ≤ 50000)
  have w2 : wst_v (s.length : Int) = ((s.length + (s.length + 127) / 128 : Nat) : Int) := by unfold wst_v; rw [w1]; rfl
  have w3 : IntKind.i64.wrap (((s.length + (s.length + 127) / 128 : Nat) : Int) + (2 : Int)) = ((s.length + (s.length + 127) / 128 : Nat) : Int) + 2 := wrap_in (by omega) (by omega)
  obtain ⟨p, b2, k1, k2, k3, k4⟩ := krbl (M := ((s.length + (s.length + 127) / 128 : Nat) : Int) + 2) hB1 (by omega) (by omega) g3
  obtain ⟨q, m1, m2, m3, m4⟩ := kpsp k3 hp hs (by omega) (by omega)
  refine ⟨q, b2, ?_, m3, m4, k4⟩
  have c1 : ¬ ((0 : Int) > 1) := by omega
  have c2 : ¬ ((q.length : Int) < (s.length : Int)) := by omega
  simp only [fbn_res, fbn_c63710022, fbn_c71456111, g1, g2, w1, w2, w3, k1, k2, m1, m2, Option.isSome_some, cond_true, cond_not c1, cond_not c2, bne_self_eq_false, beq_self_eq_true, cond_false]
  rfl
/-- A frame against another is read. -/
theorem fbg_laid {b w : List (List Ct)} {k : Int} {s z t : List Int} (hB : Byt (col b)) (hk : k = 0 ∨ k = 1) (hc : col b = k :: (byt 4 (IntKind.u64.wrap (z.length : Int)) ++ (z ++ t))) (hp : Pk s z) (hs : Byt s) (h0 : 1 ≤ s.length) (h1 : s.length ≤ 20000) (hz : z.length ≤ s.length + (s.length + 127) / 128) (hw : w.length = s.length) :
    ∃ q b', fbg_res b 0 w (s.length : Int) = some (0, b', if k = 1 then acrS q w q.length else q) ∧ col q = s ∧ q.length = s.length ∧ col b' = t := by
  have hk0 : 0 ≤ k ∧ k < 256 := by omega
  obtain ⟨b1, g1, g2, g3⟩ := krby hB hk0.1 hk0.2 hc
  have hB1 : Byt (col b1) := by rw [g3]; rw [hc] at hB; exact kright (s := [k]) hB
  have w1 := wst_is h0 (by omega : s.length ≤ 50000)
  have w2 : wst_v (s.length : Int) = ((s.length + (s.length + 127) / 128 : Nat) : Int) := by unfold wst_v; rw [w1]; rfl
  have w3 : IntKind.i64.wrap (((s.length + (s.length + 127) / 128 : Nat) : Int) + (2 : Int)) = ((s.length + (s.length + 127) / 128 : Nat) : Int) + 2 := wrap_in (by omega) (by omega)
  obtain ⟨p, b2, k1, k2, k3, k4⟩ := krbl (M := ((s.length + (s.length + 127) / 128 : Nat) : Int) + 2) hB1 (by omega) (by omega) g3
  obtain ⟨q, m1, m2, m3, m4⟩ := kpsp k3 hp hs (by omega) (by omega)
  refine ⟨q, b2, ?_, m3, m4, k4⟩
  have a1 : acr_res q w = some (acrS q w q.length) := acr_is (by omega) (by omega)
  have a2 : acr_v q w = acrS q w q.length := by unfold acr_v; rw [a1]; rfl
  have c1 : ¬ (k > 1) := by omega
  have c2 : ¬ ((q.length : Int) < (s.length : Int)) := by omega
  have c3 : (0 : Int) < (w.length : Int) := by omega
  have c4 : 0 < w.length := by omega
  rcases hk with rfl | rfl
  · simp only [fbg_res, fbg_c63710022, fbg_c14148982, fbg_c48755799, g1, g2, w1, w2, w3, k1, k2, m1, m2, a1, a2, Option.isSome_some, cond_true, cond_not c1, cond_not c2, cond_dec c4, bne_self_eq_false, beq_self_eq_true, cond_false]
    rfl
  · simp only [fbg_res, fbg_c63710022, fbg_c14148982, fbg_c48755799, g1, g2, w1, w2, w3, k1, k2, m1, m2, a1, a2, Option.isSome_some, cond_true, cond_not c1, cond_not c2, cond_dec c4, bne_self_eq_false, beq_self_eq_true, cond_false]
    rfl
end Go.Proofs.Ytcpbiijegbbafaa

/- A frame as it is laid, and all frames. No condition. -/
set_option linter.unusedVariables false
set_option linter.unusedSimpArgs false
namespace Go.Proofs.Ytcpbiijegbbafaa
open Go.RowKit

theorem acrS_col {a b : List (List Ct)} : col (acrS a b a.length) = (List.range (col a).length).map fun i => xb ((col a).getD i 0) ((col b).getD i 0) := by
  unfold acrS col
  rw [List.map_map, List.length_map]
  refine List.map_congr_left (fun i hi => ?_)
  have hi : i < a.length := List.mem_range.1 hi
  have e1 : (rd a i 0).int = (col a).getD i 0 := rd_col
  have e2 : (rd b i 0).int = (col b).getD i 0 := rd_col
  unfold col at e1 e2
  simp only [Function.comp, if_pos hi, e1, e2]
  rfl
theorem acrS_byt {a b : List (List Ct)} : Byt (col (acrS a b a.length)) := by
  rw [acrS_col]
  intro y hy
  obtain ⟨i, _, rfl⟩ := List.mem_map.1 hy
  exact xb_range _ _
/-- Against the same bytes twice: as it was. -/
theorem acrS_back {x q w v : List (List Ct)} (hq : col q = col (acrS x w x.length)) (hv : col v = col w) (hB : Byt (col x)) : col (acrS q v q.length) = col x := by
  have l : (col q).length = (col x).length := by rw [hq, col_length, acrS_length, col_length]
  rw [acrS_col, l, hq, hv, acrS_col]
  refine List.ext_getElem (by simp) (fun i h1 h2 => ?_)
  have h3 : i < (col x).length := h2
  simp only [List.getElem_map, List.getElem_range]
  rw [List.getD_eq_getElem?_getD, List.getElem?_map, List.getElem?_range h3]
  simp only [Option.map_some, Option.getD_some]
  have e : (col x).getD i 0 = (col x)[i] := by simp [List.getD_eq_getElem?_getD, h3]
  have hb := hB _ (List.getElem_mem h3)
  rw [e, xb_back hb.1 hb.2]
theorem frn_is {x : List (List Ct)} (h : x.length ≤ 20000) : frn_res x = some (pprs_v x) ∧ Pk (col x) (col (pprs_v x)) ∧ (pprs_v x).length ≤ x.length + (x.length + 127) / 128 := by
  obtain ⟨h1, h2, h3⟩ := pprs_is (x0 := x) h
  have l := (prs_len x.length (col x) (by rw [col_length]; exact Nat.le_refl _)).1
  refine ⟨by unfold frn_res; rw [h1]; rfl, by rw [h2]; exact prs_pk _ _ (by rw [col_length]; exact Nat.le_refl _), ?_⟩
  rw [← h2, col_length, col_length] at l
  exact l
theorem frg_is {x w : List (List Ct)} (h : x.length ≤ 20000) (hw : w.length = x.length) (h0 : 1 ≤ x.length) : ∃ k z, frg_res x w = some (k, z) ∧ frg_v x w = (k, z) ∧ ((k = 0 ∧ Pk (col x) (col z)) ∨ (k = 1 ∧ Pk (col (acrS x w x.length)) (col z))) ∧ z.length ≤ x.length + (x.length + 127) / 128 := by
  obtain ⟨h1, h2, h3⟩ := pprs_is (x0 := x) h
  obtain ⟨_, p2, p3⟩ := frn_is h
  have a1 : acr_res x w = some (acrS x w x.length) := acr_is (by omega) (by omega)
  have a2 : acr_v x w = acrS x w x.length := by unfold acr_v; rw [a1]; rfl
  have la : (acrS x w x.length).length = x.length := acrS_length
  obtain ⟨g1, _, _⟩ := pprs_is (x0 := acrS x w x.length) (by omega)
  obtain ⟨_, q2, q3⟩ := frn_is (x := acrS x w x.length) (by omega)
  rw [la] at q3
  have c : 0 < w.length := by omega
  have e : frg_res x w = bif decide (((pprs_v (acrS x w x.length)).length : Int) < ((pprs_v x).length : Int)) then some (1, pprs_v (acrS x w x.length)) else some (0, pprs_v x) := by
    simp only [frg_res, frg_c90315573, h1, a1, a2, g1, cond_dec c, Option.isSome_some, cond_true]
  by_cases q : ((pprs_v (acrS x w x.length)).length : Int) < ((pprs_v x).length : Int)
  · rw [cond_dec q] at e
    exact ⟨1, _, e, by unfold frg_v; rw [e]; rfl, .inr ⟨rfl, q2⟩, q3⟩
  · rw [cond_not q] at e
    exact ⟨0, _, e, by unfold frg_v; rw [e]; rfl, .inl ⟨rfl, p2⟩, p3⟩
/-- The dots' bytes of the picture at a place; its frame; frames one behind the other. -/
def fxR (x0 : List (List Ct)) (i : Nat) : List (List Ct) := flR (rd x0 i 2).rows
noncomputable def fkF (x0 : List (List Ct)) : Nat → List Int
  | 0 => 0 :: (byt 4 (IntKind.u64.wrap ((frn_v (fxR x0 0)).length : Int)) ++ col (frn_v (fxR x0 0)))
  | i + 1 => (frg_v (fxR x0 (i + 1)) (fxR x0 i)).1 :: (byt 4 (IntKind.u64.wrap ((frg_v (fxR x0 (i + 1)) (fxR x0 i)).2.length : Int)) ++ col (frg_v (fxR x0 (i + 1)) (fxR x0 i)).2)
noncomputable def fkFs (x0 : List (List Ct)) : Nat → Nat → List Int
  | _, 0 => []
  | k, d + 1 => fkF x0 k ++ fkFs x0 (k + 1) d
theorem fkFs_snoc (x0 : List (List Ct)) : ∀ (d k : Nat), fkFs x0 k (d + 1) = fkFs x0 k d ++ fkF x0 (k + d)
  | 0, k => by simp [fkFs]
  | d + 1, k => by rw [fkFs, fkFs_snoc x0 d (k + 1), fkFs, List.append_assoc, show k + 1 + d = k + (d + 1) by omega]
end Go.Proofs.Ytcpbiijegbbafaa

/- Encode's loop in plain numbers. No condition. -/
set_option linter.unusedVariables false
set_option linter.unusedSimpArgs false
namespace Go.Proofs.Ytcpbiijegbbafaa
open Go.RowKit

def FkGood (x0 : List (List Ct)) (k : Nat) : Prop := ((1 ≤ (rd x0 k 0).int ∧ (rd x0 k 0).int ≤ 64) ∧ (1 ≤ (rd x0 k 1).int ∧ (rd x0 k 1).int ≤ 64)) ∧ ((rd x0 k 2).rows.length : Int) = (rd x0 k 0).int * (rd x0 k 1).int ∧ (rd x0 k 0).int = (rd x0 0 0).int ∧ (rd x0 k 1).int = (rd x0 0 1).int
theorem mul64 {a b : Int} (h : (1 ≤ a ∧ a ≤ 64) ∧ (1 ≤ b ∧ b ≤ 64)) : 1 ≤ a * b ∧ a * b ≤ 4096 := by
  obtain ⟨⟨h1, h2⟩, h3, h4⟩ := h
  refine ⟨?_, ?_⟩
  · have := Int.mul_le_mul h1 h3 (by omega) (by omega); omega
  · have := Int.mul_le_mul h2 h4 (by omega) (by omega); omega
theorem FkGood.len {x0 : List (List Ct)} {k : Nat} (h : FkGood x0 k) : 1 ≤ (rd x0 k 2).rows.length ∧ (rd x0 k 2).rows.length ≤ 4096 := by
  obtain ⟨h1, h2, _, _⟩ := h
  have := mul64 h1
  omega
theorem FkGood.same {x0 : List (List Ct)} {k j : Nat} (h : FkGood x0 k) (g : FkGood x0 j) : (rd x0 k 2).rows.length = (rd x0 j 2).rows.length := by
  obtain ⟨_, h2, h3, h4⟩ := h
  obtain ⟨_, g2, g3, g4⟩ := g
  rw [h3, h4, ← g3, ← g4, ← g2] at h2
  omega
/-- A frame is laid behind. -/
theorem lay_frame {r z : List (List Ct)} {k : Int} (hr : r.length ≤ 900000) (hz : z.length ≤ 50000) :
    (wra_res r k (1 : Int)).isSome = true ∧ (wra_res (wra_v r k (1 : Int)) (IntKind.u64.wrap (z.length : Int)) (4 : Int)).isSome = true ∧
    (wra_v (wra_v r k (1 : Int)) (IntKind.u64.wrap (z.length : Int)) (4 : Int)).length = r.length + 5 ∧
    col (wra_v (wra_v r k (1 : Int)) (IntKind.u64.wrap (z.length : Int)) (4 : Int) ++ z) = col r ++ IntKind.u8.wrap k :: (byt 4 (IntKind.u64.wrap (z.length : Int)) ++ col z) := by
  obtain ⟨a1, a2, a3⟩ := wra_ok (r := r) (x := k) 1 (by omega)
  have e1 : (((1 : Nat)) : Int) = 1 := rfl
  have e4 : (((4 : Nat)) : Int) = 4 := rfl
  rw [e1] at a1 a2 a3
  obtain ⟨b1, b2, b3⟩ := wra_ok (r := wra_v r k (1 : Int)) (x := IntKind.u64.wrap (z.length : Int)) 4 (by omega)
  rw [e4] at b1 b2 b3
  refine ⟨a1, b1, by omega, ?_⟩
  rw [col_app, b3, a3]
  simp only [byt, List.append_assoc, List.cons_append, List.nil_append]
theorem fen_first {x0 vl : List (List Ct)} (h0 : 0 < x0.length) (hn : x0.length ≤ 32) (hv : fen_c13071608 x0 = vl) (hl : vl.length ≤ 800000) :
    (FkGood x0 0 → ∃ r, fen_L2_step x0 none = some (.inl (some (1, fxR x0 0, r))) ∧ col r = col vl ++ fkF x0 0 ∧ r.length ≤ vl.length + 20000) ∧ (¬ FkGood x0 0 → fen_L2_step x0 none = some (.inr (.inr ()))) := by
  have q0 : (0 : Int) < (x0.length : Int) := by omega
  have q1 : (0 : Int) ≤ (0 : Int) ∧ (0 : Int) < (x0.length : Int) := by omega
  have t0 : Int.toNat (0 : Int) = 0 := rfl
  refine ⟨fun g => ?_, fun g => ?_⟩
  · have gl := g.len
    obtain ⟨g1, g2, _, _⟩ := g
    have m := mul64 g1
    have w : IntKind.i64.wrap ((rd x0 0 0).int * (rd x0 0 1).int) = (rd x0 0 0).int * (rd x0 0 1).int := wrap_in (by omega) (by omega)
    have f1 := fla_is (x := (rd x0 0 2).rows) (by omega)
    have f2 : fla_v (rd x0 0 2).rows = fxR x0 0 := fla_v_is (by omega)
    have fl : (fxR x0 0).length = 3 * (rd x0 0 2).rows.length := flR_length _
    obtain ⟨n1, n2, n3⟩ := frn_is (x := fxR x0 0) (by omega)
    have n4 : frn_v (fxR x0 0) = pprs_v (fxR x0 0) := by unfold frn_v; rw [n1]; rfl
    have lz : (frn_v (fxR x0 0)).length ≤ 13000 := by rw [n4]; omega
    obtain ⟨l1, l2, l3, l4⟩ := lay_frame (r := vl) (z := frn_v (fxR x0 0)) (k := 0) (by omega) (by omega)
    refine ⟨_, ?_, l4, ?_⟩
    · simp only [fen_L2_step, fen_c53214437, fen_c90963589, fen_c80727673, fen_c60101609, hv, t0, f1, f2, w, g2, n1, l1, l2, cond_dec q0, cond_dec q1, cond_dec (show (rd x0 0 0).int ≥ 1 from g1.1.1), cond_dec g1.1.2, cond_dec (show (rd x0 0 1).int ≥ 1 from g1.2.1), cond_dec g1.2.2, beq_self_eq_true, Bool.and_self, Bool.not_true, cond_false, cond_true, Option.isSome_some]
      exact ob_step (by omega) rfl
    · rw [List.length_append, l3]; omega
  · simp only [fen_L2_step, t0, cond_dec q0, cond_dec q1, beq_self_eq_true, Bool.and_self, Bool.not_true, cond_false]
    by_cases c1 : (rd x0 0 0).int ≥ 1
    · by_cases c2 : (rd x0 0 0).int ≤ 64
      · by_cases c3 : (rd x0 0 1).int ≥ 1
        · by_cases c4 : (rd x0 0 1).int ≤ 64
          · have m := mul64 ⟨⟨c1, c2⟩, c3, c4⟩
            have w : IntKind.i64.wrap ((rd x0 0 0).int * (rd x0 0 1).int) = (rd x0 0 0).int * (rd x0 0 1).int := wrap_in (by omega) (by omega)
            have c5 : ¬ ((rd x0 0 2).rows.length : Int) = (rd x0 0 0).int * (rd x0 0 1).int := fun h => g ⟨⟨⟨c1, c2⟩, c3, c4⟩, h, rfl, rfl⟩
            have c6 : (((rd x0 0 2).rows.length : Int) == (rd x0 0 0).int * (rd x0 0 1).int) = false := beq_eq_false_iff_ne.2 c5
            simp only [cond_dec c1, cond_dec c2, cond_dec c3, cond_dec c4, w, c6, Bool.not_false, cond_true]
          · simp only [cond_dec c1, cond_dec c2, cond_dec c3, cond_not c4]
        · simp only [cond_dec c1, cond_dec c2, cond_not c3]
      · simp only [cond_dec c1, cond_not c2]
    · simp only [cond_not c1]
theorem fen_next {x0 vl : List (List Ct)} {k : Nat} (hk : k + 1 < x0.length) (hn : x0.length ≤ 32) (hl : vl.length ≤ 800000) (hp : FkGood x0 k) :
    (FkGood x0 (k + 1) → ∃ r, fen_L2_step x0 (some (((k + 1 : Nat) : Int), fxR x0 k, vl)) = some (.inl (some (((k + 2 : Nat) : Int), fxR x0 (k + 1), r))) ∧ col r = col vl ++ fkF x0 (k + 1) ∧ r.length ≤ vl.length + 20000) ∧ (¬ FkGood x0 (k + 1) → fen_L2_step x0 (some (((k + 1 : Nat) : Int), fxR x0 k, vl)) = some (.inr (.inr ()))) := by
  have q0 : ((k + 1 : Nat) : Int) < (x0.length : Int) := by omega
  have q1 : (0 : Int) ≤ ((k + 1 : Nat) : Int) ∧ ((k + 1 : Nat) : Int) < (x0.length : Int) := by omega
  have q2 : (0 : Int) ≤ (0 : Int) ∧ (0 : Int) < (x0.length : Int) := by omega
  have t0 : Int.toNat (0 : Int) = 0 := rfl
  have ws : IntKind.i64.wrap (((k + 1 : Nat) : Int) + (1 : Int)) = ((k + 2 : Nat) : Int) := wrap_succ (by omega)
  refine ⟨fun g => ?_, fun g => ?_⟩
  · have gl := g.len
    have gs := g.same hp
    obtain ⟨g1, g2, g3, g4⟩ := g
    have m := mul64 g1
    have w : IntKind.i64.wrap ((rd x0 (k + 1) 0).int * (rd x0 (k + 1) 1).int) = (rd x0 (k + 1) 0).int * (rd x0 (k + 1) 1).int := wrap_in (by omega) (by omega)
    have f1 := fla_is (x := (rd x0 (k + 1) 2).rows) (by omega)
    have f2 : fla_v (rd x0 (k + 1) 2).rows = fxR x0 (k + 1) := fla_v_is (by omega)
    have fl : (fxR x0 (k + 1)).length = 3 * (rd x0 (k + 1) 2).rows.length := flR_length _
    have fl2 : (fxR x0 k).length = 3 * (rd x0 k 2).rows.length := flR_length _
    obtain ⟨e, z, n1, n2, n3, n4⟩ := frg_is (x := fxR x0 (k + 1)) (w := fxR x0 k) (by omega) (by omega) (by omega)
    have lz : z.length ≤ 13000 := by omega
    have we : IntKind.u64.wrap e = e := u64_in (by omega) (by omega)
    have we8 : IntKind.u8.wrap e = e := wrap_u8 (by omega) (by omega)
    obtain ⟨l1, l2, l3, l4⟩ := lay_frame (r := vl) (z := z) (k := e) (by omega) (by omega)
    rw [we8] at l4
    refine ⟨wra_v (wra_v vl e (1 : Int)) (IntKind.u64.wrap (z.length : Int)) (4 : Int) ++ z, ?_, by rw [l4, fkF, n2], ?_⟩
    · simp only [fen_L2_step, fen_c59837490, fen_c35432492, fen_c26567832, fen_c61515500, Int.toNat_natCast, t0, f1, f2, w, we, ws, g2, ← g3, ← g4, n1, n2, l1, l2, cond_dec q0, cond_dec q1, cond_dec q2, cond_dec (show (rd x0 (k + 1) 0).int ≥ 1 from g1.1.1), cond_dec g1.1.2, cond_dec (show (rd x0 (k + 1) 1).int ≥ 1 from g1.2.1), cond_dec g1.2.2, beq_self_eq_true, Bool.and_self, Bool.not_true, cond_false, cond_true, Option.isSome_some]
      exact ob_step (by omega) rfl
    · rw [List.length_append, l3]; omega
  · simp only [fen_L2_step, Int.toNat_natCast, t0, cond_dec q0, cond_dec q1, cond_dec q2, Bool.and_true]
    by_cases c1 : (rd x0 (k + 1) 0).int ≥ 1
    · by_cases c2 : (rd x0 (k + 1) 0).int ≤ 64
      · by_cases c3 : (rd x0 (k + 1) 1).int ≥ 1
        · by_cases c4 : (rd x0 (k + 1) 1).int ≤ 64
          · have m := mul64 ⟨⟨c1, c2⟩, c3, c4⟩
            have w : IntKind.i64.wrap ((rd x0 (k + 1) 0).int * (rd x0 (k + 1) 1).int) = (rd x0 (k + 1) 0).int * (rd x0 (k + 1) 1).int := wrap_in (by omega) (by omega)
            simp only [cond_dec c1, cond_dec c2, cond_dec c3, cond_dec c4, w]
            by_cases c5 : ((rd x0 (k + 1) 2).rows.length : Int) = (rd x0 (k + 1) 0).int * (rd x0 (k + 1) 1).int
            · have c7 : (((rd x0 (k + 1) 0).int == (rd x0 0 0).int) && ((rd x0 (k + 1) 1).int == (rd x0 0 1).int)) = false := by
                rw [Bool.eq_false_iff]
                intro h
                rw [Bool.and_eq_true, beq_iff_eq, beq_iff_eq] at h
                exact g ⟨⟨⟨c1, c2⟩, c3, c4⟩, c5, h.1, h.2⟩
              have c6 : (((rd x0 (k + 1) 2).rows.length : Int) == (rd x0 (k + 1) 0).int * (rd x0 (k + 1) 1).int) = true := beq_iff_eq.2 c5
              simp only [c6, c7, Bool.not_true, Bool.not_false, cond_true, cond_false]
            · have c6 : (((rd x0 (k + 1) 2).rows.length : Int) == (rd x0 (k + 1) 0).int * (rd x0 (k + 1) 1).int) = false := beq_eq_false_iff_ne.2 c5
              simp only [c6, Bool.not_false, cond_true]
          · simp only [cond_dec c1, cond_dec c2, cond_dec c3, cond_not c4]
        · simp only [cond_dec c1, cond_dec c2, cond_not c3]
      · simp only [cond_dec c1, cond_not c2]
    · simp only [cond_not c1]
end Go.Proofs.Ytcpbiijegbbafaa

/- Encode, in plain numbers. No condition. -/
set_option linter.unusedVariables false
set_option linter.unusedSimpArgs false
namespace Go.Proofs.Ytcpbiijegbbafaa
open Go.RowKit

theorem wra_one {r : List (List Ct)} {x : Int} (hr : r.length ≤ 900000) : (wra_res r x (1 : Int)).isSome = true ∧ (wra_v r x (1 : Int)).length = r.length + 1 ∧ col (wra_v r x (1 : Int)) = col r ++ [IntKind.u8.wrap x] := by
  obtain ⟨a1, a2, a3⟩ := wra_ok (r := r) (x := x) 1 (by omega)
  exact ⟨a1, a2, by simpa [byt] using a3⟩
def fkMag : List (List Ct) := [[Ct.i (70 : Int)], [Ct.i (76 : Int)], [Ct.i (75 : Int)], [Ct.i (49 : Int)]]
theorem fen_hstep {k : Nat} {vl : List (List Ct)} {x : Int} (hk : k < 4) (hl : vl.length ≤ 900000) (hx : (rd fkMag k 0).int = x) (h0 : 0 ≤ x) (h1 : x < 256) : ∃ r, fen_L0_step ((k : Int), vl) = some (.inl (((k + 1 : Nat) : Int), r)) ∧ col r = col vl ++ [x] ∧ r.length = vl.length + 1 := by
  have q : (k : Int) < ((fkMag.length : Nat) : Int) := by show (k : Int) < 4; omega
  have q1 : (0 : Int) ≤ (k : Int) ∧ (k : Int) < ((fkMag.length : Nat) : Int) := ⟨by omega, q⟩
  have w1 : IntKind.i64.wrap x = x := wrap_in (by omega) (by omega)
  have w2 : IntKind.u64.wrap x = x := u64_in (by omega) (by omega)
  obtain ⟨a1, a2, a3⟩ := wra_one (r := vl) (x := x) hl
  rw [wrap_u8 h0 h1] at a3
  refine ⟨wra_v vl x (1 : Int), ?_, a3, a2⟩
  unfold fkMag at q q1 hx
  simp only [fen_L0_step, fen_c17895337, Int.toNat_natCast, hx, w1, w2, cond_dec q, cond_dec q1, a1, cond_true]
  rw [wrap_succ (by omega)]
theorem fen_head : fen_L0_p = true ∧ col fen_L0_v.snd = [70, 76, 75, 49] ∧ fen_L0_v.snd.length = 4 := by
  obtain ⟨r1, a1, b1, c1⟩ := fen_hstep (k := 0) (vl := []) (x := 70) (by omega) (by simp) rfl (by omega) (by omega)
  simp only [List.length_nil] at c1
  obtain ⟨r2, a2, b2, c2⟩ := fen_hstep (k := 1) (vl := r1) (x := 76) (by omega) (by omega) rfl (by omega) (by omega)
  obtain ⟨r3, a3, b3, c3⟩ := fen_hstep (k := 2) (vl := r2) (x := 75) (by omega) (by omega) rfl (by omega) (by omega)
  obtain ⟨r4, a4, b4, c4⟩ := fen_hstep (k := 3) (vl := r3) (x := 49) (by omega) (by omega) rfl (by omega) (by omega)
  have e : fen_L0_step (((3 + 1 : Nat) : Int), r4) = some (.inr (((3 + 1 : Nat) : Int), r4)) := rfl
  have h : iter fen_L0_step 5 (0, []) = some (((3 + 1 : Nat) : Int), r4) := by
    have a1' : fen_L0_step ((0 : Int), []) = some (.inl (((0 + 1 : Nat) : Int), r1)) := a1
    rw [iter_inl a1', iter_inl a2, iter_inl a3, iter_inl a4, iter_inr e]
  refine ⟨by unfold fen_L0_p; rw [h]; rfl, ?_⟩
  unfold fen_L0_v loopRes
  rw [h]
  refine ⟨?_, by show r4.length = 4; omega⟩
  show col r4 = _
  rw [b4, b3, b2, b1]; rfl
theorem fen_hd {x0 : List (List Ct)} (h0 : 0 < x0.length) (hn : x0.length ≤ 32) : (wra_res fen_L0_v.snd (IntKind.u64.wrap (rd x0 0 0).int) (1 : Int)).isSome = true ∧ (wra_res (fen_c70358026 x0) (IntKind.u64.wrap (rd x0 0 1).int) (1 : Int)).isSome = true ∧ (wra_res (fen_c89817490 x0) (IntKind.u64.wrap (x0.length : Int)) (1 : Int)).isSome = true ∧ (fen_c13071608 x0).length = 7 ∧ (FkGood x0 0 → col (fen_c13071608 x0) = [70, 76, 75, 49, (rd x0 0 0).int, (rd x0 0 1).int, (x0.length : Int)]) := by
  obtain ⟨_, h2, h3⟩ := fen_head
  obtain ⟨a1, a2, a3⟩ := wra_one (r := fen_L0_v.snd) (x := IntKind.u64.wrap (rd x0 0 0).int) (by omega)
  have e1 : fen_c70358026 x0 = wra_v fen_L0_v.snd (IntKind.u64.wrap (rd x0 0 0).int) (1 : Int) := rfl
  rw [← e1] at a2 a3
  obtain ⟨b1, b2, b3⟩ := wra_one (r := fen_c70358026 x0) (x := IntKind.u64.wrap (rd x0 0 1).int) (by omega)
  have e2 : fen_c89817490 x0 = wra_v (fen_c70358026 x0) (IntKind.u64.wrap (rd x0 0 1).int) (1 : Int) := rfl
  rw [← e2] at b2 b3
  obtain ⟨c1, c2, c3⟩ := wra_one (r := fen_c89817490 x0) (x := IntKind.u64.wrap (x0.length : Int)) (by omega)
  have e3 : fen_c13071608 x0 = wra_v (fen_c89817490 x0) (IntKind.u64.wrap (x0.length : Int)) (1 : Int) := rfl
  rw [← e3] at c2 c3
  refine ⟨a1, b1, c1, by omega, fun g => ?_⟩
  obtain ⟨⟨⟨g1, g2⟩, g3, g4⟩, _⟩ := g
  rw [c3, b3, a3, h2, u64_in (by omega) (by omega), u64_in (by omega) (by omega), u64_in (by omega) (by omega), wrap_u8 (by omega) (by omega), wrap_u8 (by omega) (by omega), wrap_u8 (by omega) (by omega)]
  rfl
theorem fen_it {x0 : List (List Ct)} {H : List Int} (hn : x0.length ≤ 32) : ∀ (d k fuel : Nat) (vl : List (List Ct)), k + 1 + d = x0.length → d < fuel → (∀ j, j ≤ k → FkGood x0 j) → col vl = H ++ fkFs x0 0 (k + 1) → vl.length ≤ 1000 + k * 20000 + 20000 →
    (∃ a r w, iter (fen_L2_step x0) fuel (some (((k + 1 : Nat) : Int), fxR x0 k, vl)) = some (.inl (a, r, w)) ∧ col r = H ++ fkFs x0 0 x0.length ∧ r.length ≤ 700000 ∧ ∀ j, j < x0.length → FkGood x0 j) ∨ (iter (fen_L2_step x0) fuel (some (((k + 1 : Nat) : Int), fxR x0 k, vl)) = some (.inr ()) ∧ ∃ j, j < x0.length ∧ ¬ FkGood x0 j) := by
  intro d
  induction d with
  | zero =>
    intro k fuel vl hk hf hg hc hl
    obtain ⟨fuel, rfl⟩ : ∃ m, fuel = m + 1 := ⟨fuel - 1, by omega⟩
    have q : ¬ (((k + 1 : Nat) : Int) < (x0.length : Int)) := by omega
    refine .inl ⟨((k + 1 : Nat) : Int), vl, fxR x0 k, iter_inr (by simp only [fen_L2_step, cond_not q]), ?_, by omega, fun j hj => hg j (by omega)⟩
    rw [hc, show x0.length = k + 1 by omega]
  | succ d ih =>
    intro k fuel vl hk hf hg hc hl
    obtain ⟨fuel, rfl⟩ : ∃ m, fuel = m + 1 := ⟨fuel - 1, by omega⟩
    obtain ⟨s1, s2⟩ := fen_next (x0 := x0) (vl := vl) (k := k) (by omega) hn (by omega) (hg k (by omega))
    by_cases g : FkGood x0 (k + 1)
    · obtain ⟨r, a1, a2, a3⟩ := s1 g
      rw [iter_inl a1]
      refine ih (k + 1) fuel r (by omega) (by omega) (fun j hj => ?_) ?_ (by omega)
      · rcases Nat.lt_or_ge k j with h | h
        · obtain rfl : j = k + 1 := by omega
          exact g
        · exact hg j h
      · rw [a2, hc, fkFs_snoc x0 (k + 1) 0, List.append_assoc, Nat.zero_add]
    · exact .inr ⟨iter_inr (s2 g), k + 1, by omega, g⟩
theorem fen_is {x0 : List (List Ct)} : (fen_res x0 = some (1, []) ∧ ¬ (1 ≤ x0.length ∧ x0.length ≤ 32 ∧ ∀ j, j < x0.length → FkGood x0 j)) ∨ ∃ r, fen_res x0 = some (0, r) ∧ 1 ≤ x0.length ∧ x0.length ≤ 32 ∧ (∀ j, j < x0.length → FkGood x0 j) ∧ r.length ≤ 700000 ∧ col r = [70, 76, 75, 49, (rd x0 0 0).int, (rd x0 0 1).int, (x0.length : Int)] ++ fkFs x0 0 x0.length := by
  by_cases c1 : (x0.length : Int) < 1
  · exact .inl ⟨by unfold fen_res; rw [cond_dec c1], fun h => by omega⟩
  by_cases c2 : (x0.length : Int) > 32
  · exact .inl ⟨by unfold fen_res; rw [cond_not c1, cond_dec c2], fun h => by omega⟩
  have t0 : Int.toNat (0 : Int) = 0 := rfl
  have q0 : (0 : Int) ≤ (0 : Int) ∧ (0 : Int) < (x0.length : Int) := by omega
  obtain ⟨p1, _, _⟩ := fen_head
  obtain ⟨a1, a2, a3, a4, a5⟩ := fen_hd (x0 := x0) (by omega) (by omega)
  obtain ⟨s1, s2⟩ := fen_first (x0 := x0) (by omega) (by omega) rfl (by omega)
  have key : (∃ a r w, iter (fen_L2_step x0) (x0.length + 1) none = some (.inl (a, r, w)) ∧ col r = [70, 76, 75, 49, (rd x0 0 0).int, (rd x0 0 1).int, (x0.length : Int)] ++ fkFs x0 0 x0.length ∧ r.length ≤ 700000 ∧ ∀ j, j < x0.length → FkGood x0 j) ∨ (iter (fen_L2_step x0) (x0.length + 1) none = some (.inr ()) ∧ ∃ j, j < x0.length ∧ ¬ FkGood x0 j) := by
    by_cases g : FkGood x0 0
    · obtain ⟨r, b1, b2, b3⟩ := s1 g
      rw [iter_inl b1]
      refine fen_it (by omega) (x0.length - 1) 0 x0.length r (by omega) (by omega) (fun j hj => ?_) ?_ (by omega)
      · obtain rfl : j = 0 := by omega
        exact g
      · rw [b2, a5 g]; simp [fkFs]
    · exact .inr ⟨iter_inr (s2 g), 0, by omega, g⟩
  rcases key with ⟨a, r, w, h, h2, h3, h4⟩ | ⟨h, j, hj, hnj⟩
  · refine .inr ⟨[] ++ r, ?_, by omega, by omega, h4, by simpa using h3, by simpa using h2⟩
    have pv : fen_L2_p x0 = true := by unfold fen_L2_p; rw [h]; rfl
    have vv : fen_L2_v x0 = .inl (a, r, w) := by unfold fen_L2_v; rw [h]; rfl
    unfold fen_res
    simp only [t0, cond_not c1, cond_not c2, cond_true, p1, cond_dec q0, a1, a2, a3, pv, vv, isL, getL]
    exact ob_step (by omega) rfl
  · refine .inl ⟨?_, fun hh => hnj (hh.2.2 j hj)⟩
    have pv : fen_L2_p x0 = true := by unfold fen_L2_p; rw [h]; rfl
    have vv : fen_L2_v x0 = .inr () := by unfold fen_L2_v; rw [h]; rfl
    unfold fen_res
    simp only [t0, cond_not c1, cond_not c2, cond_true, p1, cond_dec q0, a1, a2, a3, pv, vv, isL, cond_false]
end Go.Proofs.Ytcpbiijegbbafaa

/- What stands ahead is read as laid; a picture's dots are cut from its bytes. No condition. -/
set_option linter.unusedVariables false
set_option linter.unusedSimpArgs false
namespace Go.Proofs.Ytcpbiijegbbafaa
open Go.RowKit

theorem fhd_hstep {k : Nat} {vl : List (List Ct)} {x : Int} {t : List Int} (hB : Byt (col vl)) (hk : k < 4) (hc : col vl = x :: t) (hx : (rd fkMag k 0).int = x) (h0 : 0 ≤ x) (h1 : x < 256) : ∃ r, fhd_L0_step ((k : Int), (0 : Int), vl) = some (.inl (((k + 1 : Nat) : Int), (0 : Int), r)) ∧ col r = t ∧ Byt (col r) := by
  have q : (k : Int) < ((fkMag.length : Nat) : Int) := by show (k : Int) < 4; omega
  have q1 : (0 : Int) ≤ (k : Int) ∧ (k : Int) < ((fkMag.length : Nat) : Int) := ⟨by omega, q⟩
  have w1 : IntKind.i64.wrap x = x := wrap_in (by omega) (by omega)
  obtain ⟨r, a1, a2, a3⟩ := krby hB h0 h1 hc
  refine ⟨r, ?_, a3, by rw [a3]; rw [hc] at hB; exact kright (s := [x]) hB⟩
  unfold fkMag at q q1 hx
  simp only [fhd_L0_step, Int.toNat_natCast, hx, w1, cond_dec q, cond_dec q1, a1, a2, Option.isSome_some, cond_true, beq_self_eq_true, bne_self_eq_false, cond_false]
  rw [wrap_succ (by omega)]
theorem fhd_laid {b : List (List Ct)} {w h n : Int} {t : List Int} (hB : Byt (col b)) (hw : 1 ≤ w ∧ w ≤ 64) (hh : 1 ≤ h ∧ h ≤ 64) (hn : 1 ≤ n ∧ n ≤ 32) (hc : col b = [70, 76, 75, 49, w, h, n] ++ t) : ∃ r, fhd_res b 0 = some (n, 0, w, h, r) ∧ fhd_v b 0 = (n, 0, w, h, r) ∧ col r = t ∧ Byt (col r) := by
  obtain ⟨r1, a1, b1, c1⟩ := fhd_hstep (k := 0) hB (by omega) hc rfl (by omega) (by omega)
  obtain ⟨r2, a2, b2, c2⟩ := fhd_hstep (k := 1) c1 (by omega) b1 rfl (by omega) (by omega)
  obtain ⟨r3, a3, b3, c3⟩ := fhd_hstep (k := 2) c2 (by omega) b2 rfl (by omega) (by omega)
  obtain ⟨r4, a4, b4, c4⟩ := fhd_hstep (k := 3) c3 (by omega) b3 rfl (by omega) (by omega)
  have e : fhd_L0_step (((3 + 1 : Nat) : Int), (0 : Int), r4) = some (.inr (((3 + 1 : Nat) : Int), (0 : Int), r4)) := rfl
  have hI : iter fhd_L0_step 5 ((0 : Int), (0 : Int), b) = some (((3 + 1 : Nat) : Int), (0 : Int), r4) := by
    have a1' : fhd_L0_step ((0 : Int), (0 : Int), b) = some (.inl (((0 + 1 : Nat) : Int), (0 : Int), r1)) := a1
    rw [iter_inl a1', iter_inl a2, iter_inl a3, iter_inl a4, iter_inr e]
  have pv : fhd_L0_p b 0 = true := by unfold fhd_L0_p; rw [hI]; rfl
  have vv : fhd_L0_v b 0 = (((3 + 1 : Nat) : Int), (0 : Int), r4) := by unfold fhd_L0_v loopRes; rw [hI]; rfl
  obtain ⟨r5, d1, d2, d3⟩ := krby c4 (by omega) (by omega) b4
  have c5 : Byt (col r5) := by rw [d3]; rw [b4] at c4; exact kright (s := [w]) c4
  obtain ⟨r6, e1, e2, e3⟩ := krby c5 (by omega) (by omega) d3
  have c6 : Byt (col r6) := by rw [e3]; rw [d3] at c5; exact kright (s := [h]) c5
  obtain ⟨r7, f1, f2, f3⟩ := krby c6 (by omega) (by omega) e3
  have c7 : Byt (col r7) := by rw [f3]; rw [e3] at c6; exact kright (s := [n]) c6
  have q1 : w ≥ 1 := hw.1
  have q2 : h ≥ 1 := hh.1
  have q3 : ¬ n < 1 := by omega
  have q4 : ¬ n > 32 := by omega
  have q5 : decide (h ≤ 64) = true := decide_eq_true hh.2
  have hr : fhd_res b 0 = some (n, 0, w, h, r7) := by
    simp only [fhd_res, fhd_c90579284, fhd_c76998915, fhd_c87334124, pv, vv, d1, d2, e1, e2, f1, f2, Option.isSome_some, cond_true, beq_self_eq_true, cond_dec q1, cond_dec hw.2, cond_dec q2, q5, Bool.not_true, cond_false, cond_not q3, cond_not q4]
  exact ⟨r7, hr, by unfold fhd_v; rw [hr]; rfl, f3, c7⟩
/-- Dots by their bytes. -/
def ctR (q : List (List Ct)) (m : Nat) : List (List Ct) := (List.range m).map fun i => [Ct.i (rd q (3 * i) 0).int, Ct.i (rd q (3 * i + 1) 0).int, Ct.i (rd q (3 * i + 2) 0).int]
theorem ctR_succ {q : List (List Ct)} {m : Nat} : ctR q (m + 1) = ctR q m ++ [[Ct.i (rd q (3 * m) 0).int, Ct.i (rd q (3 * m + 1) 0).int, Ct.i (rd q (3 * m + 2) 0).int]] := by simp [ctR, List.range_succ]
theorem ctR_length {q : List (List Ct)} {m : Nat} : (ctR q m).length = m := by simp [ctR]
theorem rd_prt {l : List (List Ct)} {a i : Nat} (h : a + i < l.length) : rd (partOf l (a : Int) (l.length : Int)) i 0 = rd l (a + i) 0 := by
  simp only [rd, partOf, List.getD_eq_getElem?_getD, Int.toNat_natCast]
  rw [List.getElem?_take, if_pos (by omega), List.getElem?_drop]
theorem fdeA_is {x0 q : List (List Ct)} {M : Nat} (hq : (fde_c56502520 x0).snd.snd = q) (hl : q.length = 3 * M) (hM : M ≤ 10000) : fde_L2a_p x0 = true ∧ (fde_L2a_v x0).snd = ctR q M := by
  have h : iter (fde_L2a_step x0) 20000 ((0 : Int), []) = some (((3 * M : Nat) : Int), ctR q M) := by
    refine iter_run (fun m => (((3 * m : Nat) : Int), ctR q m)) (n := M) rfl (fun m hm => ?_) ?_ (by omega)
    · have q0 : ((3 * m : Nat) : Int) < (q.length : Int) := by omega
      have q1 : (0 : Int) ≤ ((3 * m : Nat) : Int) ∧ ((3 * m : Nat) : Int) ≤ (q.length : Int) ∧ (q.length : Int) ≤ (q.length : Int) := by omega
      have l : (partOf q ((3 * m : Nat) : Int) (q.length : Int)).length = q.length - 3 * m := part_length (by omega)
      have q2 : 3 ≤ (partOf q ((3 * m : Nat) : Int) (q.length : Int)).length := by omega
      have e0 : rd (partOf q ((3 * m : Nat) : Int) (q.length : Int)) 0 0 = rd q (3 * m) 0 := rd_prt (i := 0) (by omega)
      have e1 : rd (partOf q ((3 * m : Nat) : Int) (q.length : Int)) 1 0 = rd q (3 * m + 1) 0 := rd_prt (i := 1) (by omega)
      have e2 : rd (partOf q ((3 * m : Nat) : Int) (q.length : Int)) 2 0 = rd q (3 * m + 2) 0 := rd_prt (i := 2) (by omega)
      have g : ∀ (f : Nat → Ct), rd [List.map f (List.range 3)] 0 0 = f 0 ∧ rd [List.map f (List.range 3)] 0 1 = f 1 ∧ rd [List.map f (List.range 3)] 0 2 = f 2 := fun f => ⟨rfl, rfl, rfl⟩
      have w : IntKind.i64.wrap (((3 * m : Nat) : Int) + (3 : Int)) = ((3 * (m + 1) : Nat) : Int) := by rw [wrap_in (by omega) (by omega)]; omega
      have lc : (ctR q m).length = m := ctR_length
      simp only [fde_L2a_step, hq, cond_dec q0, cond_dec q1, cond_dec q2, (g _).1, (g _).2.1, (g _).2.2, e0, e1, e2, w]
      rw [ctR_succ]
      exact ob_step (by simp only [List.length_cons, List.length_nil, lc]; omega) rfl
    · have q0 : ¬ (((3 * M : Nat) : Int) < (q.length : Int)) := by omega
      simp only [fde_L2a_step, hq, cond_not q0]
  refine ⟨by unfold fde_L2a_p; rw [h]; rfl, ?_⟩
  unfold fde_L2a_v loopRes
  rw [h]
  rfl
theorem fdeB_is {x0 q : List (List Ct)} {vi1 : Int} {vl0 vl1 : List (List Ct)} {M : Nat} (hq : (fde_c97296055 x0 vi1 vl0 vl1).snd.snd = q) (hl : q.length = 3 * M) (hM : M ≤ 10000) : fde_L2_p x0 vi1 vl0 vl1 = true ∧ (fde_L2_v x0 vi1 vl0 vl1).snd = ctR q M := by
  have h : iter (fde_L2_step x0 vi1 vl0 vl1) 20000 ((0 : Int), []) = some (((3 * M : Nat) : Int), ctR q M) := by
    refine iter_run (fun m => (((3 * m : Nat) : Int), ctR q m)) (n := M) rfl (fun m hm => ?_) ?_ (by omega)
    · have q0 : ((3 * m : Nat) : Int) < (q.length : Int) := by omega
      have q1 : (0 : Int) ≤ ((3 * m : Nat) : Int) ∧ ((3 * m : Nat) : Int) ≤ (q.length : Int) ∧ (q.length : Int) ≤ (q.length : Int) := by omega
      have l : (partOf q ((3 * m : Nat) : Int) (q.length : Int)).length = q.length - 3 * m := part_length (by omega)
      have q2 : 3 ≤ (partOf q ((3 * m : Nat) : Int) (q.length : Int)).length := by omega
      have e0 : rd (partOf q ((3 * m : Nat) : Int) (q.length : Int)) 0 0 = rd q (3 * m) 0 := rd_prt (i := 0) (by omega)
      have e1 : rd (partOf q ((3 * m : Nat) : Int) (q.length : Int)) 1 0 = rd q (3 * m + 1) 0 := rd_prt (i := 1) (by omega)
      have e2 : rd (partOf q ((3 * m : Nat) : Int) (q.length : Int)) 2 0 = rd q (3 * m + 2) 0 := rd_prt (i := 2) (by omega)
      have g : ∀ (f : Nat → Ct), rd [List.map f (List.range 3)] 0 0 = f 0 ∧ rd [List.map f (List.range 3)] 0 1 = f 1 ∧ rd [List.map f (List.range 3)] 0 2 = f 2 := fun f => ⟨rfl, rfl, rfl⟩
      have w : IntKind.i64.wrap (((3 * m : Nat) : Int) + (3 : Int)) = ((3 * (m + 1) : Nat) : Int) := by rw [wrap_in (by omega) (by omega)]; omega
      have lc : (ctR q m).length = m := ctR_length
      simp only [fde_L2_step, hq, cond_dec q0, cond_dec q1, cond_dec q2, (g _).1, (g _).2.1, (g _).2.2, e0, e1, e2, w]
      rw [ctR_succ]
      exact ob_step (by simp only [List.length_cons, List.length_nil, lc]; omega) rfl
    · have q0 : ¬ (((3 * M : Nat) : Int) < (q.length : Int)) := by omega
      simp only [fde_L2_step, hq, cond_not q0]
  refine ⟨by unfold fde_L2_p; rw [h]; rfl, ?_⟩
  unfold fde_L2_v loopRes
  rw [h]
  rfl
end Go.Proofs.Ytcpbiijegbbafaa

/- Decode of what Encode laid. No condition. -/
set_option linter.unusedVariables false
set_option linter.unusedSimpArgs false
namespace Go.Proofs.Ytcpbiijegbbafaa
open Go.RowKit

theorem ctR_col {q v : List (List Ct)} {m : Nat} (h : col q = col v) : ctR q m = ctR v m := by
  have e : ∀ i, (rd q i 0).int = (rd v i 0).int := fun i => by rw [rd_col, rd_col, h]
  unfold ctR
  simp only [e]
theorem fkF_zero {x0 : List (List Ct)} (g : FkGood x0 0) : ∃ z, fkF x0 0 = 0 :: (byt 4 (IntKind.u64.wrap ((z.length : Nat) : Int)) ++ z) ∧ Pk (col (fxR x0 0)) z ∧ z.length ≤ (col (fxR x0 0)).length + ((col (fxR x0 0)).length + 127) / 128 := by
  have gl := g.len
  have fl : (fxR x0 0).length = 3 * (rd x0 0 2).rows.length := flR_length _
  obtain ⟨n1, n2, n3⟩ := frn_is (x := fxR x0 0) (by omega)
  have n4 : frn_v (fxR x0 0) = pprs_v (fxR x0 0) := by unfold frn_v; rw [n1]; rfl
  exact ⟨col (pprs_v (fxR x0 0)), by rw [fkF, n4, col_length], n2, by rw [col_length, col_length]; exact n3⟩
theorem fkF_next {x0 : List (List Ct)} {k : Nat} (g : FkGood x0 (k + 1)) (gp : FkGood x0 k) (hB : Byt (col (fxR x0 (k + 1)))) : ∃ e s z, fkF x0 (k + 1) = e :: (byt 4 (IntKind.u64.wrap ((z.length : Nat) : Int)) ++ z) ∧ Pk s z ∧ Byt s ∧ s.length = (fxR x0 (k + 1)).length ∧ z.length ≤ s.length + (s.length + 127) / 128 ∧ ((e = 0 ∧ s = col (fxR x0 (k + 1))) ∨ (e = 1 ∧ s = col (acrS (fxR x0 (k + 1)) (fxR x0 k) (fxR x0 (k + 1)).length))) := by
  have gl := g.len
  have gs := g.same gp
  have fl : (fxR x0 (k + 1)).length = 3 * (rd x0 (k + 1) 2).rows.length := flR_length _
  have fl2 : (fxR x0 k).length = 3 * (rd x0 k 2).rows.length := flR_length _
  obtain ⟨e, z, n1, n2, n3, n4⟩ := frg_is (x := fxR x0 (k + 1)) (w := fxR x0 k) (by omega) (by omega) (by omega)
  have hf : fkF x0 (k + 1) = e :: (byt 4 (IntKind.u64.wrap (((col z).length : Nat) : Int)) ++ col z) := by rw [fkF, n2, col_length]
  rcases n3 with ⟨he, hp⟩ | ⟨he, hp⟩
  · exact ⟨e, _, col z, hf, hp, hB, by rw [col_length], by rw [col_length, col_length]; exact n4, .inl ⟨he, rfl⟩⟩
  · exact ⟨e, _, col z, hf, hp, acrS_byt, by rw [col_length, acrS_length], by rw [col_length, col_length, acrS_length]; exact n4, .inr ⟨he, rfl⟩⟩
/-- The first pictures, as they are decoded. -/
def pcR (x0 : List (List Ct)) (M k : Nat) : List (List Ct) := (List.range k).map fun i => [Ct.i (rd x0 0 0).int, Ct.i (rd x0 0 1).int, Ct.l (ctR (fxR x0 i) M)]
theorem pcR_succ {x0 : List (List Ct)} {M k : Nat} : pcR x0 M (k + 1) = pcR x0 M k ++ [[Ct.i (rd x0 0 0).int, Ct.i (rd x0 0 1).int, Ct.l (ctR (fxR x0 k) M)]] := by simp [pcR, List.range_succ]
theorem pcR_length {x0 : List (List Ct)} {M k : Nat} : (pcR x0 M k).length = k := by simp [pcR]
theorem fde_it {B x0 : List (List Ct)} {M : Nat} {hb : List (List Ct)} (hn : x0.length ≤ 32) (hG : ∀ j, j < x0.length → FkGood x0 j) (hB : ∀ j, j < x0.length → Byt (col (fxR x0 j))) (hM : (rd x0 0 2).rows.length = M) (hc : fde_c6100797 B = ((x0.length : Int), 0, (rd x0 0 0).int, (rd x0 0 1).int, hb)) : ∀ (d k fuel : Nat) (b w : List (List Ct)), k + 1 + d = x0.length → d < fuel → Byt (col b) → col b = fkFs x0 (k + 1) d → col w = col (fxR x0 k) →
    ∃ a b' w', iter (fde_L0_step B) fuel (some ((d : Int), (0 : Int), b, w, pcR x0 M (k + 1))) = some (a, (0 : Int), b', pcR x0 M x0.length, w') ∧ b'.length = 0 := by
  intro d
  induction d with
  | zero =>
    intro k fuel b w hk hf hb1 hb2 hw
    obtain ⟨fuel, rfl⟩ : ∃ m, fuel = m + 1 := ⟨fuel - 1, by omega⟩
    have q : ¬ ((((0 : Nat) : Int)) > 0) := by omega
    refine ⟨((0 : Nat) : Int), b, w, iter_inr ?_, by rw [← col_length, hb2]; rfl⟩
    rw [show x0.length = k + 1 by omega]
    simp only [fde_L0_step, cond_not q]
  | succ d ih =>
    intro k fuel b w hk hf hb1 hb2 hw
    obtain ⟨fuel, rfl⟩ : ∃ m, fuel = m + 1 := ⟨fuel - 1, by omega⟩
    have g0 := hG 0 (by omega)
    have g := hG (k + 1) (by omega)
    have gp := hG k (by omega)
    have gl := g.len
    have gs := g.same g0
    have gs2 := gp.same g0
    have fl : (fxR x0 (k + 1)).length = 3 * (rd x0 (k + 1) 2).rows.length := flR_length _
    have fl2 : (fxR x0 k).length = 3 * (rd x0 k 2).rows.length := flR_length _
    have lw : w.length = (fxR x0 k).length := by rw [← col_length, hw, col_length]
    obtain ⟨e, s, z, f1, f2, f3, f4, f5, f6⟩ := fkF_next g gp (hB _ (by omega))
    rw [fkFs, f1] at hb2
    have hb3 : col b = e :: (byt 4 (IntKind.u64.wrap ((z.length : Nat) : Int)) ++ (z ++ fkFs x0 (k + 1 + 1) d)) := by rw [hb2]; simp only [List.cons_append, List.append_assoc]
    obtain ⟨q, b', h1, h2, h3, h4⟩ := fbg_laid (w := w) hb1 (by omega : e = 0 ∨ e = 1) hb3 f2 f3 (by omega) (by omega) f5 (by omega)
    have hb' : Byt (col b') := by
      rw [h4]
      rw [hb3] at hb1
      intro y hy
      exact hb1 y (List.mem_cons_of_mem _ (List.mem_append_right _ (List.mem_append_right _ hy)))
    have hq : ∃ p, (if e = 1 then acrS q w q.length else q) = p ∧ col p = col (fxR x0 (k + 1)) ∧ p.length = 3 * M := by
      rcases f6 with ⟨rfl, rfl⟩ | ⟨rfl, rfl⟩
      · exact ⟨q, rfl, h2, by omega⟩
      · exact ⟨_, rfl, acrS_back h2 hw (hB _ (by omega)), by rw [if_pos rfl, acrS_length]; omega⟩
    obtain ⟨p, p1, p2, p3⟩ := hq
    rw [p1] at h1
    obtain ⟨⟨g1, g2, _, _⟩, _⟩ := And.intro g0 trivial
    have m := mul64 g1
    have w1 : IntKind.i64.wrap ((rd x0 0 0).int * (rd x0 0 1).int) = (rd x0 0 0).int * (rd x0 0 1).int := wrap_in (by omega) (by omega)
    have w2 : IntKind.i64.wrap ((3 : Int) * ((rd x0 0 0).int * (rd x0 0 1).int)) = ((s.length : Nat) : Int) := by rw [wrap_in (by omega) (by omega)]; omega
    have v1 : fde_c97296055 B 0 b w = (0, b', p) := by simp only [fde_c97296055, hc, w1, w2]; unfold fbg_v; rw [h1]; rfl
    obtain ⟨c1, c2⟩ := fdeB_is (x0 := B) (q := p) (vi1 := 0) (vl0 := b) (vl1 := w) (M := M) (by rw [v1]) p3 (by omega)
    have q0 : (((d + 1 : Nat) : Int)) > 0 := by omega
    have w3 : IntKind.i64.wrap (((d + 1 : Nat) : Int) - (1 : Int)) = (d : Int) := by rw [wrap_in (by omega) (by omega)]; omega
    have st : fde_L0_step B (some (((d + 1 : Nat) : Int), (0 : Int), b, w, pcR x0 M (k + 1))) = some (.inl (some ((d : Int), (0 : Int), b', p, pcR x0 M (k + 1 + 1)))) := by
      rw [pcR_succ (k := k + 1), ← ctR_col p2]
      have lp : (pcR x0 M (k + 1)).length = k + 1 := pcR_length
      simp only [fde_L0_step, cond_dec q0, hc, w1, w2, w3, h1, v1, c1, c2, Option.isSome_some, cond_true, beq_self_eq_true]
      exact ob_step (by simp only [List.length_cons, List.length_nil, lp]; omega) rfl
    rw [iter_inl st]
    exact ih (k + 1) fuel b' p (by omega) (by omega) hb' h4 p2
end Go.Proofs.Ytcpbiijegbbafaa

/- Decode of what Encode laid: the pictures. No condition. -/
set_option linter.unusedVariables false
set_option linter.unusedSimpArgs false
namespace Go.Proofs.Ytcpbiijegbbafaa
open Go.RowKit

theorem kapp {s t : List Int} (h : Byt s) (g : Byt t) : Byt (s ++ t) := fun y hy => (List.mem_append.1 hy).elim (h y) (g y)
theorem kcons {x : Int} {t : List Int} (h0 : 0 ≤ x ∧ x < 256) (g : Byt t) : Byt (x :: t) := fun y hy => by
  rcases List.mem_cons.1 hy with rfl | hy
  · exact h0
  · exact g y hy
theorem fkF_byt {x0 : List (List Ct)} {k : Nat} (hG : ∀ j, j ≤ k → FkGood x0 j) (hB : ∀ j, j ≤ k → Byt (col (fxR x0 j))) : Byt (fkF x0 k) := by
  cases k with
  | zero =>
    obtain ⟨z, h1, h2, _⟩ := fkF_zero (hG 0 (by omega))
    rw [h1]
    exact kcons (by omega) (kapp (byt_byt _ _) (h2.byt (hB 0 (by omega))))
  | succ k =>
    obtain ⟨e, s, z, h1, h2, h3, _, _, h6⟩ := fkF_next (hG (k + 1) (by omega)) (hG k (by omega)) (hB _ (by omega))
    rw [h1]
    exact kcons (by omega) (kapp (byt_byt _ _) (h2.byt h3))
theorem fkFs_byt {x0 : List (List Ct)} {n : Nat} (hG : ∀ j, j < n → FkGood x0 j) (hB : ∀ j, j < n → Byt (col (fxR x0 j))) : ∀ (d k : Nat), k + d ≤ n → Byt (fkFs x0 k d)
  | 0, _, _ => fun y hy => absurd hy (by simp [fkFs])
  | d + 1, k, h => kapp (fkF_byt (fun j hj => hG j (by omega)) (fun j hj => hB j (by omega))) (fkFs_byt hG hB d (k + 1) (by omega))
theorem fde_is {B x0 : List (List Ct)} (h0 : 1 ≤ x0.length) (hn : x0.length ≤ 32) (hG : ∀ j, j < x0.length → FkGood x0 j) (hB : ∀ j, j < x0.length → Byt (col (fxR x0 j))) (hl : B.length ≤ 700000) (hc : col B = [70, 76, 75, 49, (rd x0 0 0).int, (rd x0 0 1).int, (x0.length : Int)] ++ fkFs x0 0 x0.length) : fde_res B = some (0, pcR x0 (rd x0 0 2).rows.length x0.length) := by
  have g0 := hG 0 (by omega)
  have gl := g0.len
  obtain ⟨g1, g2, _, _⟩ := hG 0 (by omega)
  have m := mul64 g1
  have hBB : Byt (col B) := by
    rw [hc]
    exact kapp (kcons (by omega) (kcons (by omega) (kcons (by omega) (kcons (by omega) (kcons (by omega) (kcons (by omega) (kcons (by omega) (fun y hy => absurd hy (by simp))))))))) (fkFs_byt hG hB x0.length 0 (by omega))
  have q0 : rrd_res B = some ([] ++ B) := by unfold rrd_res; exact ob_step (by omega) rfl
  have q1 : rrd_v B = B := by unfold rrd_v; rw [q0]; rfl
  obtain ⟨hb, a1, a2, a3, a4⟩ := fhd_laid (b := B) hBB g1.1 g1.2 (by omega) hc
  have hcc : fde_c6100797 B = ((x0.length : Int), 0, (rd x0 0 0).int, (rd x0 0 1).int, hb) := by unfold fde_c6100797; rw [q1]; exact a2
  have fl : (fxR x0 0).length = 3 * (rd x0 0 2).rows.length := flR_length _
  obtain ⟨z, f1, f2, f3⟩ := fkF_zero g0
  obtain ⟨d, hd⟩ : ∃ d, x0.length = d + 1 := ⟨x0.length - 1, by omega⟩
  have a3' : col hb = 0 :: (byt 4 (IntKind.u64.wrap ((z.length : Nat) : Int)) ++ (z ++ fkFs x0 1 d)) := by
    rw [a3, hd, fkFs, f1]; simp only [List.cons_append, List.append_assoc]
  have lc : (col (fxR x0 0)).length = 3 * (rd x0 0 2).rows.length := by rw [col_length]; exact fl
  obtain ⟨q, b', h1, h2, h3, h4⟩ := fbn_laid a4 a3' f2 (hB 0 (by omega)) (by omega) (by omega) f3
  have hb' : Byt (col b') := by rw [h4]; exact fkFs_byt hG hB d 1 (by omega)
  have w1 : IntKind.i64.wrap ((rd x0 0 0).int * (rd x0 0 1).int) = (rd x0 0 0).int * (rd x0 0 1).int := wrap_in (by omega) (by omega)
  have w2 : IntKind.i64.wrap ((3 : Int) * ((rd x0 0 0).int * (rd x0 0 1).int)) = (((col (fxR x0 0)).length : Nat) : Int) := by rw [wrap_in (by omega) (by omega)]; omega
  have w3 : IntKind.i64.wrap ((x0.length : Int) - (1 : Int)) = (d : Int) := by rw [wrap_in (by omega) (by omega)]; omega
  have v1 : fde_c56502520 B = (0, b', q) := by simp only [fde_c56502520, hcc, w1, w2]; unfold fbn_v; rw [h1]; rfl
  obtain ⟨c1, c2⟩ := fdeA_is (x0 := B) (q := q) (M := (rd x0 0 2).rows.length) (by rw [v1]) (by omega) (by omega)
  have p0 : (x0.length : Int) > 0 := by omega
  have st : fde_L0_step B none = some (.inl (some ((d : Int), (0 : Int), b', q, pcR x0 (rd x0 0 2).rows.length (0 + 1)))) := by
    rw [pcR_succ (k := 0), ← ctR_col h2]
    simp only [fde_L0_step, cond_dec p0, hcc, w1, w2, w3, h1, v1, c1, c2, Option.isSome_some, cond_true, beq_self_eq_true]
    exact ob_step (by simp only [List.length_cons, List.length_nil]; omega) rfl
  obtain ⟨a, b2, w', e1, e2⟩ := fde_it (B := B) (hb := hb) hn hG hB rfl hcc d 0 299 b' q (by omega) (by omega) hb' h4 h2
  have hi : iter (fde_L0_step B) 300 none = some (a, (0 : Int), b2, pcR x0 (rd x0 0 2).rows.length x0.length, w') := by rw [iter_inl st]; exact e1
  have pv : fde_L0_p B = true := by unfold fde_L0_p; rw [hi]; rfl
  have vv : fde_L0_v B = (a, (0 : Int), b2, pcR x0 (rd x0 0 2).rows.length x0.length, w') := by unfold fde_L0_v loopRes; rw [hi]; rfl
  have k0 : ¬ ((b2.length : Int) > 0) := by omega
  simp only [fde_res, q0, q1, a1, pv, vv, Option.isSome_some, cond_true, cond_not k0, bne_self_eq_false, cond_false]
end Go.Proofs.Ytcpbiijegbbafaa

/- Light pictures; pictures copied; the same ones. No condition. -/
set_option linter.unusedVariables false
set_option linter.unusedSimpArgs false
namespace Go.Proofs.Ytcpbiijegbbafaa
open Go.RowKit

theorem lig_it {x0 : List (List Ct)} (hx : x0.length ≤ 9223372036854775807) : ∀ (d k fuel : Nat) (a : Int), k + d = x0.length → d < fuel → (∃ a' b', iter (lig_L0_step x0) fuel (a, (k : Int)) = some (.inl (a', b')) ∧ ∀ j, k ≤ j → j < x0.length → (rd x0 j 2).rows.length ≤ 5000) ∨ iter (lig_L0_step x0) fuel (a, (k : Int)) = some (.inr ()) := by
  intro d
  induction d with
  | zero =>
    intro k fuel a hk hf
    obtain ⟨fuel, rfl⟩ : ∃ m, fuel = m + 1 := ⟨fuel - 1, by omega⟩
    have q : ¬ ((k : Int) < (x0.length : Int)) := by omega
    exact .inl ⟨a, (k : Int), iter_inr (by simp only [lig_L0_step, cond_not q]), fun j h1 h2 => by omega⟩
  | succ d ih =>
    intro k fuel a hk hf
    obtain ⟨fuel, rfl⟩ : ∃ m, fuel = m + 1 := ⟨fuel - 1, by omega⟩
    have q : (k : Int) < (x0.length : Int) := by omega
    have q1 : (0 : Int) ≤ (k : Int) ∧ (k : Int) < (x0.length : Int) := by omega
    by_cases c : ((rd x0 k 2).rows.length : Int) > 5000
    · exact .inr (iter_inr (by simp only [lig_L0_step, Int.toNat_natCast, cond_dec q, cond_dec q1, cond_dec c]))
    · have st : lig_L0_step x0 (a, (k : Int)) = some (.inl (IntKind.i64.wrap (a + ((rd x0 k 2).rows.length : Int)), ((k + 1 : Nat) : Int))) := by
        simp only [lig_L0_step, Int.toNat_natCast, cond_dec q, cond_dec q1, cond_not c]
        rw [wrap_succ (by omega)]
      rw [iter_inl st]
      rcases ih (k + 1) fuel _ (by omega) (by omega) with ⟨a', b', h1, h2⟩ | h
      · refine .inl ⟨a', b', h1, fun j h3 h4 => ?_⟩
        rcases Nat.lt_or_ge k j with h | h
        · exact h2 j h h4
        · obtain rfl : j = k := by omega
          omega
      · exact .inr h
theorem lig_is {x0 : List (List Ct)} (hx : x0.length ≤ 9223372036854775807) : ∃ b, lig_res x0 = some b ∧ lig_v x0 = b ∧ (b = true → x0.length ≤ 40 ∧ ∀ j, j < x0.length → (rd x0 j 2).rows.length ≤ 5000) := by
  have key := lig_it hx x0.length 0 (x0.length + 1) 0 (by omega) (by omega)
  have e : ((0 : Nat) : Int) = (0 : Int) := rfl
  rw [e] at key
  rcases key with ⟨a', b', h1, h2⟩ | h
  · have pv : lig_L0_p x0 = true := by unfold lig_L0_p; rw [h1]; rfl
    have vv : lig_L0_v x0 = .inl (a', b') := by unfold lig_L0_v; rw [h1]; rfl
    by_cases c : a' ≤ 9000
    · have r : lig_res x0 = some (decide ((x0.length : Int) ≤ 40)) := by simp only [lig_res, pv, vv, isL, getL, cond_true, cond_dec c]
      exact ⟨_, r, by unfold lig_v; rw [r]; rfl, fun h => ⟨by have := of_decide_eq_true h; omega, fun j hj => h2 j (by omega) hj⟩⟩
    · have r : lig_res x0 = some false := by simp only [lig_res, pv, vv, isL, getL, cond_true, cond_not c]
      exact ⟨_, r, by unfold lig_v; rw [r]; rfl, fun h => by cases h⟩
  · have pv : lig_L0_p x0 = true := by unfold lig_L0_p; rw [h]; rfl
    have vv : lig_L0_v x0 = .inr () := by unfold lig_L0_v; rw [h]; rfl
    have r : lig_res x0 = some false := by simp only [lig_res, pv, vv, isL, cond_true, cond_false]
    exact ⟨_, r, by unfold lig_v; rw [r]; rfl, fun h => by cases h⟩
/-- Pictures copied. -/
def cpR (x0 : List (List Ct)) (k : Nat) : List (List Ct) := (List.range k).map fun i => [Ct.i (rd x0 i 0).int, Ct.i (rd x0 i 1).int, Ct.l (rd x0 i 2).rows]
theorem cpR_succ {x0 : List (List Ct)} {k : Nat} : cpR x0 (k + 1) = cpR x0 k ++ [[Ct.i (rd x0 k 0).int, Ct.i (rd x0 k 1).int, Ct.l (rd x0 k 2).rows]] := by simp [cpR, List.range_succ]
theorem cpR_length {x0 : List (List Ct)} {k : Nat} : (cpR x0 k).length = k := by simp [cpR]
theorem cpR_get {x0 : List (List Ct)} {k j : Nat} (h : j < k) : (cpR x0 k).getD j [] = [Ct.i (rd x0 j 0).int, Ct.i (rd x0 j 1).int, Ct.l (rd x0 j 2).rows] := by simp [cpR, List.getD_eq_getElem?_getD, h]
theorem pal_is {x0 : List (List Ct)} (hx : x0.length ≤ 40) (hl : ∀ j, j < x0.length → (rd x0 j 2).rows.length ≤ 5000) : pal_res x0 = some (cpR x0 x0.length) := by
  have r : iter (pal_L0_step x0) (x0.length + 1) ((0 : Int), []) = some ((x0.length : Int), cpR x0 x0.length) := by
    refine iter_run (fun k => ((k : Int), cpR x0 k)) (n := x0.length) rfl (fun k hk => ?_) ?_ (by omega)
    · have q : (k : Int) < (x0.length : Int) := by omega
      have q1 : (0 : Int) ≤ (k : Int) ∧ (k : Int) < (x0.length : Int) := by omega
      have hk5 := hl k hk
      have p : pto_res (rd x0 k 0).int (rd x0 k 1).int (rd x0 k 2).rows = some ((rd x0 k 0).int, (rd x0 k 1).int, (rd x0 k 2).rows) := by unfold pto_res; exact ob_step (by omega) rfl
      have pv : pal_c9589354 x0 (k : Int) = ((rd x0 k 0).int, (rd x0 k 1).int, (rd x0 k 2).rows) := by simp only [pal_c9589354, Int.toNat_natCast]; unfold pto_v; rw [p]; rfl
      have lc : (cpR x0 k).length = k := cpR_length
      simp only [pal_L0_step, Int.toNat_natCast, cond_dec q, cond_dec q1, p, pv, Option.isSome_some, cond_true]
      rw [wrap_succ (by omega), cpR_succ]
      exact ob_step (by simp only [List.length_cons, List.length_nil, lc]; omega) rfl
    · have q : ¬ ((x0.length : Int) < (x0.length : Int)) := by omega
      simp only [pal_L0_step, cond_not q]
  unfold pal_res pal_L0_p pal_L0_v loopRes
  rw [r]; rfl
end Go.Proofs.Ytcpbiijegbbafaa

/- Dots by their bytes are the dots. No condition. -/
set_option linter.unusedVariables false
set_option linter.unusedSimpArgs false
namespace Go.Proofs.Ytcpbiijegbbafaa
open Go.RowKit

theorem flR_rd : ∀ (D : List (List Ct)) (j : Nat), j < D.length → (rd (flR D) (3 * j) 0).int = (rd D j 0).int ∧ (rd (flR D) (3 * j + 1) 0).int = (rd D j 1).int ∧ (rd (flR D) (3 * j + 2) 0).int = (rd D j 2).int
  | [], j, h => by simp at h
  | r :: t, 0, h => ⟨rfl, rfl, rfl⟩
  | r :: t, j + 1, h => flR_rd t j (by simpa using h)
theorem ctR_rd {q : List (List Ct)} {m j : Nat} (h : j < m) : (rd (ctR q m) j 0).int = (rd q (3 * j) 0).int ∧ (rd (ctR q m) j 1).int = (rd q (3 * j + 1) 0).int ∧ (rd (ctR q m) j 2).int = (rd q (3 * j + 2) 0).int := by
  have e : (ctR q m).getD j [] = [Ct.i (rd q (3 * j) 0).int, Ct.i (rd q (3 * j + 1) 0).int, Ct.i (rd q (3 * j + 2) 0).int] := by simp [ctR, List.getD_eq_getElem?_getD, h]
  refine ⟨?_, ?_, ?_⟩ <;> (show (((ctR q m).getD j []).getD _ (.i 0)).int = _; rw [e]; rfl)
theorem psa_is {D : List (List Ct)} {w h : Int} (hD : D.length ≤ 5000) : psa_res w h (ctR (flR D) D.length) w h D = some true := by
  have lc : (ctR (flR D) D.length).length = D.length := ctR_length
  have r : iter (psa_L0_step (ctR (flR D) D.length) D) ((ctR (flR D) D.length).length + 1) (0 : Int) = some (.inl (D.length : Int)) := by
    refine iter_run (fun k => (k : Int)) (n := D.length) rfl (fun k hk => ?_) ?_ (by omega)
    · have q : (k : Int) < ((ctR (flR D) D.length).length : Int) := by omega
      have q1 : (0 : Int) ≤ (k : Int) ∧ (k : Int) < ((ctR (flR D) D.length).length : Int) := by omega
      have q2 : (0 : Int) ≤ (k : Int) ∧ (k : Int) < (D.length : Int) := by omega
      obtain ⟨a1, a2, a3⟩ := ctR_rd (q := flR D) hk
      obtain ⟨b1, b2, b3⟩ := flR_rd D k hk
      simp only [psa_L0_step, Int.toNat_natCast, cond_dec q, cond_dec q1, cond_dec q2, a1, a2, a3, b1, b2, b3, beq_self_eq_true, Bool.and_self, Bool.not_true, cond_false]
      rw [wrap_succ (by omega)]
    · have q : ¬ ((D.length : Int) < ((ctR (flR D) D.length).length : Int)) := by omega
      simp only [psa_L0_step, cond_not q]
  have pv : psa_L0_p (ctR (flR D) D.length) D = true := by unfold psa_L0_p; rw [r]; rfl
  have vv : psa_L0_v (ctR (flR D) D.length) D = .inl (D.length : Int) := by unfold psa_L0_v; rw [r]; rfl
  simp only [psa_res, lc, pv, vv, isL, bne_self_eq_false, cond_false, cond_true]
theorem flR_byt {D : List (List Ct)} (h : ∀ i, i < D.length → ∀ j, j < 3 → 0 ≤ (rd D i j).int ∧ (rd D i j).int < 256) : Byt (col (flR D)) := by
  intro y hy
  induction D with
  | nil => simp [flR, col] at hy
  | cons r t ih =>
    have e : col (flR (r :: t)) = (rd (r :: t) 0 0).int :: (rd (r :: t) 0 1).int :: (rd (r :: t) 0 2).int :: col (flR t) := rfl
    rw [e] at hy
    rcases List.mem_cons.1 hy with rfl | hy
    · exact h 0 (by simp) 0 (by omega)
    rcases List.mem_cons.1 hy with rfl | hy
    · exact h 0 (by simp) 1 (by omega)
    rcases List.mem_cons.1 hy with rfl | hy
    · exact h 0 (by simp) 2 (by omega)
    exact ih (fun i hi j hj => h (i + 1) (by simpa using hi) j hj) hy
end Go.Proofs.Ytcpbiijegbbafaa
