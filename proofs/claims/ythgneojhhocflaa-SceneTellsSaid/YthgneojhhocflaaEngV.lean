/- A symbolic way through the code of a call: slices of an open length: append, make, a slice's part, a row that is written, bytes and texts. No condition. -/
import Derived.Test.YthgneojhhocflaaEngU
set_option linter.unusedVariables false
namespace Go.Proofs.Ythgneojhhocflaa
open Go.RowKit

theorem opAppend_ok {P : Program} {o : Oper} {get : Operand → RV} {hp : Hp} {nx : Nat} {out : Out} {t : TypeId} {x y : Operand} {c : Call} {b : Bool} (ho : o.op = .call c) (hc : c.callee = .builtin .append) (ha : c.args.toList = [x, y]) (hat : c.argTypes.toList = [t, t])
    (h : opAppend P get hp nx t x y = some (b, out)) (hb : b = true) : OpOk P o get hp nx out := by
  have ha' : c.args = #[x, y] := by apply Array.ext'; simpa using ha
  have hat' : c.argTypes = #[t, t] := by apply Array.ext'; simpa using hat
  have hop : o.op.operands = #[x, y] := by rw [ho]; simp [Op.operands, Call.operands, hc, ha']
  unfold opAppend at h
  split at h
  · rename_i el hu
    split at h
    · rename_i sh i hsh hi
      split at h
      · rename_i T l1 C Y l2 z hT hS hz
        cases hbq : (Nat.beq i.size sh.length && Nat.beq z.cells.size sh.length && Nat.blt 0 sh.length && T.all (fun id => !Y.any (Nat.beq id)) && (T ++ C).all (fun id => Nat.blt id nx)) with
        | false => rw [hbq] at h; cases h
        | true =>
          rw [hbq] at h
          simp only [cond_true, Option.some.injEq, Prod.mk.injEq] at h
          obtain ⟨rfl, rfl⟩ := h
          simp only [decide_eq_true_eq] at hb
          simp only [Bool.and_eq_true, List.all_eq_true] at hbq
          obtain ⟨⟨⟨⟨q1, q2⟩, q3⟩, q4⟩, q5⟩ := hbq
          have q1 := Nat.eq_of_beq_eq_true q1
          have q2 := Nat.eq_of_beq_eq_true q2
          have q3 : 0 < sh.length := Nat.le_of_ble_eq_true q3
          have hTY : ∀ id ∈ T, id ∉ Y := fun id hid hm => by
            have := q4 id hid
            have h2 : Y.any (Nat.beq id) = true := List.any_eq_true.2 ⟨id, hm, Nat.beq_refl id⟩
            rw [h2] at this; cases this
          intro e a w hx hsat K Q hK
          have hx1 := hx x (by rw [hop]; simp)
          have hx2 := hx y (by rw [hop]; simp)
          obtain ⟨φ1, k1, k2, k3⟩ := tgtOf_ok hT hsat C
          obtain ⟨φ2, k4, k5⟩ := srcOf_ok hS q3 hsat hTY k3
          obtain ⟨v', w', e', g1, g2, g3⟩ := append_core (P := P) (ty := o.type) (nx := nx) hsat hu hi hz q1 q2 q3 (fun id hid => Nat.le_of_ble_eq_true (q5 id hid)) k1 k2 k4 k5 hb.1 hb.2
          refine wp_value (w' := w') (v := v') ?_ ?_
          · simp only [execOp, ho, resolve, hc, ha', hat', List.map_toArray, List.map_cons, List.map_nil, hx1, hx2, Sem.run_bind, Sem.run_pure, Result.andThen_ok, invoke, builtin, g1]
          · rw [g2]; exact hK e' w' g3
      · cases h
    · cases h
  · cases h

/-- A row, some of its cells another. -/
def updRow (w off : Nat) (cts r : List Ct) : List Ct := (List.range w).map fun j => bif Nat.ble off j && Nat.blt j (off + cts.length) then cts.getD (j - off) (.i 0) else r.getD j (.i 0)
def opStoreE (P : Program) (get : Operand → RV) (hp : Hp) (nx : Nat) (t : TypeId) (x y : Operand) : Option Out :=
  match get x, get y with
  | .sv (.one (.eptr q off)), .sv s => (match hlook hp q with
    | some (.elem id i w) => (match hlook hp id, sizeP P t with
      | some (.row sh el l), some n => bif s.plain && Nat.beq w sh.length && Nat.beq s.cells.length n && Nat.ble (off + n) sh.length && s.cells.all (fun c => c.ids.isEmpty) then
          (match ctsOf hp s.cells ((sh.drop off).take n) with
          | some cts => some ⟨RV.und, [(id, .row sh el (l.set i (updRow w off cts (l.getD i []))))], nx, [id]⟩
          | none => none) else none
      | _, _ => none)
    | _ => none)
  | _, _ => none
theorem rd_set {l : List (List Ct)} {i : Nat} {r : List Ct} (hi : i < l.length) (i' j : Nat) : rd (l.set i r) i' j = if i' = i then r.getD j (.i 0) else rd l i' j := by
  unfold rd
  simp only [List.getD_eq_getElem?_getD (l := l.set i r), List.getElem?_set]
  by_cases h : i' = i
  · subst h; simp [hi]
  · rw [if_neg (fun h' => h h'.symm), if_neg h]; simp [List.getD_eq_getElem?_getD]
theorem updRow_get {w off : Nat} {cts r : List Ct} {j : Nat} (hj : j < w) : (updRow w off cts r).getD j (.i 0) = if off ≤ j ∧ j < off + cts.length then cts.getD (j - off) (.i 0) else r.getD j (.i 0) := by
  unfold updRow
  rw [List.getD_eq_getElem?_getD, List.getElem?_map, List.getElem?_range hj]
  simp only [Option.map_some, Option.getD_some]
  by_cases h1 : off ≤ j
  · rw [show Nat.ble off j = true from Nat.ble_eq_true_of_le h1]
    by_cases h2 : j < off + cts.length
    · rw [show Nat.blt j (off + cts.length) = true from Nat.ble_eq_true_of_le h2, if_pos ⟨h1, h2⟩]; rfl
    · rw [if_neg (fun h => h2 h.2)]
      cases hb : Nat.blt j (off + cts.length) with
      | true => exact absurd (Nat.le_of_ble_eq_true hb) h2
      | false => rfl
  · rw [if_neg (fun h => h1 h.1)]
    cases hb : Nat.ble off j with
    | true => exact absurd (Nat.le_of_ble_eq_true hb) h1
    | false => rfl
theorem opStoreE_ok {P : Program} {o : Oper} {get : Operand → RV} {hp : Hp} {nx : Nat} {out : Out} {t : TypeId} {x y : Operand} (ho : o.op = .store t x y) (h : opStoreE P get hp nx t x y = some out) : OpOk P o get hp nx out := by
  unfold opStoreE at h
  split at h
  · rename_i q off s hgx hgy
    split at h
    · rename_i id i wd hq
      split at h
      · rename_i sh el l n hl hn
        cases hb : (s.plain && Nat.beq wd sh.length && Nat.beq s.cells.length n && Nat.ble (off + n) sh.length && s.cells.all (fun c => c.ids.isEmpty)) with
        | false => rw [hb] at h; cases h
        | true =>
          rw [hb] at h
          simp only [cond_true] at h
          split at h
          · rename_i cts hcts
            cases h
            simp only [Bool.and_eq_true] at hb
            obtain ⟨⟨⟨⟨b1, b2⟩, b3⟩, b4⟩, b5⟩ := hb
            obtain rfl := Nat.eq_of_beq_eq_true b2
            obtain rfl := Nat.eq_of_beq_eq_true b3
            have b4 := Nat.le_of_ble_eq_true b4
            intro e a w hx hsat K Q hK
            have hx1 := hx x (by rw [ho]; simp [Op.operands])
            have hx2 := hx y (by rw [ho]; simp [Op.operands])
            rw [hgx] at hx1
            rw [hgy] at hx2
            obtain ⟨⟨a0, ha0, hsp, hqa⟩, hi⟩ := hsat.holds _ _ hq
            obtain ⟨⟨d, xs, hown, hc⟩, hφ⟩ := hsat.holds _ _ hl
            obtain ⟨g1, g2, d2, g3⟩ := ctsOf_ok hsat hcts
            have hno : ∀ b, ¬ Nest hp e s.cells b := by
              rintro b ⟨i', hi', _⟩
              obtain ⟨c, hc', hi''⟩ := List.mem_flatMap.1 hi'
              have := List.all_eq_true.1 b5 c hc'
              simp only [List.isEmpty_iff] at this
              rw [this] at hi''; cases hi''
            rcases hown.2 with ⟨hv, _⟩ | ⟨g, cap, cur, hv, _, hg, hnc, hcm, hcs, htake⟩
            · simp only [Env.slv, Value.slice.injEq] at hv
              rw [hv.1] at ha0; cases ha0
            · have hv' := hv
              simp only [Env.slv, Value.slice.injEq] at hv
              rw [hv.1] at ha0
              cases ha0
              rw [hv.2.1] at hi
              have hlen : (l.length : Nat) * sh.length ≤ cur.size := by rw [hcs]; exact Nat.mul_le_mul_right _ hnc
              have hi1 : (i + 1) * sh.length ≤ l.length * sh.length := Nat.mul_le_mul_right _ hi
              rw [Nat.succ_mul] at hi1
              have hrun := run_storeCells_at (P := P) g (i * sh.length + off) el (s.cells.map (CV.den e)) 0 _ w hg (by simp; omega) (splain_one e b1)
              rw [Nat.add_zero] at hrun
              refine wp_skipped (w' := w.setRow g (cur.toList.take (i * sh.length + off) ++ s.cells.map (CV.den e) ++ cur.toList.drop (i * sh.length + off + (s.cells.map (CV.den e)).length)).toArray) ?_ ?_
              · have hx1' : a.eval x = .pointer (some ⟨g, i * sh.length + off, none⟩) := by rw [hx1]; simp [RV.den, SV.den, CV.den, Env.blk, Env.off, hqa]
                have hx2' : a.eval y = s.den e := hx2
                simp only [execOp, ho, Instr.storeAt, hx1', hx2', Instr.sureAddr, Sem.run_bind, Sem.run_pure, Result.andThen_ok, storeVar]
                rw [SV.cells_den e b1]
                simp only [sizeP_run hn, Result.andThen_ok, List.size_toArray, List.length_map, ne_eq, not_true_eq_false, if_false]
                rw [hrun]
                simp only [Result.andThen_ok, List.length_map]
              · have hblk : (e.slv id).ownBlock = some g := by rw [hv']; rfl
                refine hK e _ ⟨fun _ _ => .refl _ _, rfl, rfl, rfl, by simp [World.setRow], fun k hk hne => setRow_other _ _ _ _ fun h' => hne id (by simp) _ hl (by subst h'; exact hblk), ⟨fun id' o' ho' => ?_, fun id1 o1 ho1 id2 o2 ho2 hne => absurd ((hlook_one ho1).1.trans (hlook_one ho2).1.symm) hne⟩, fun id' o' b ho' hf => ?_, fun id' o' b ho' hf => ?_⟩
                · obtain ⟨rfl, rfl⟩ := hlook_one ho'
                  have hcur : ∀ p, (cur.toList.take (i * sh.length + off) ++ s.cells.map (CV.den e) ++ cur.toList.drop (i * sh.length + off + (s.cells.map (CV.den e)).length))[p]? =
                      if i * sh.length + off ≤ p ∧ p < i * sh.length + off + s.cells.length then (s.cells.map (CV.den e))[p - (i * sh.length + off)]? else cur[p]? := by
                    intro p
                    have hmin : min (i * sh.length + off) cur.size = i * sh.length + off := by omega
                    simp only [List.length_map, List.getElem?_append, List.length_append, List.length_take, Array.length_toList, hmin, List.getElem?_take, List.getElem?_drop, Array.getElem?_toList]
                    by_cases p1 : p < i * sh.length + off
                    · rw [if_pos (by omega), if_pos p1, if_pos p1, if_neg (by omega)]
                    · by_cases p2 : p < i * sh.length + off + s.cells.length
                      · rw [if_pos p2, if_neg p1, if_pos (by omega)]
                      · rw [if_neg p2, if_neg (by omega)]
                        congr 1; omega
                  refine ⟨⟨max d d2, (cur.toList.take (i * sh.length + off) ++ s.cells.map (CV.den e) ++ cur.toList.drop (i * sh.length + off + (s.cells.map (CV.den e)).length)).take (l.length * sh.length), ?_, fun i' hi' j s' hs' => ?_⟩, fun b hb => ⟨by have := (hφ b hb).1; simpa [World.setRow] using this, (hφ b hb).2⟩⟩
                  · rw [List.length_set]
                    refine ⟨?_, .inr ⟨g, cap, _, hv', Nat.zero_le _, setRow_heap w g cur _ el (0, 0) hg, hnc, hcm, ?_, rfl⟩⟩
                    · simp only [List.length_take, List.length_append, List.length_map, List.length_drop, Array.length_toList]; omega
                    · simp only [List.size_toArray, List.length_append, List.length_map, List.length_take, List.length_drop, Array.length_toList]; omega
                  · rw [List.length_set] at hi'
                    have hj : j < sh.length := by
                      rcases Nat.lt_or_ge j sh.length with h | h
                      · exact h
                      · rw [List.getElem?_eq_none h] at hs'; cases hs'
                    have hi1' : (i' + 1) * sh.length ≤ l.length * sh.length := Nat.mul_le_mul_right _ hi'
                    rw [Nat.succ_mul] at hi1'
                    rw [List.getElem?_take, if_pos (by omega), hcur, rd_set hi]
                    obtain ⟨u, hu, hh⟩ := hc i' hi' j s' hs'
                    have hold : cur[i' * sh.length + j]? = some u := by
                      rw [← htake, List.getElem?_take, if_pos (by omega)] at hu
                      simpa using hu
                    have hctl : cts.length = s.cells.length := by omega
                    by_cases hii : i' = i
                    · subst hii
                      rw [if_pos rfl, updRow_get hj, hctl]
                      by_cases hin : off ≤ j ∧ j < off + s.cells.length
                      · rw [if_pos hin, if_pos (by omega)]
                        obtain ⟨c, hc1, hc2⟩ := g3 (j - off) s' (by rw [List.getElem?_take, if_pos (by omega), List.getElem?_drop, ← hs']; congr 1; omega)
                        refine ⟨c.den e, ?_, (hc2.mono fun b hb => absurd hb (hno b)).deeper (Nat.le_max_right _ _)⟩
                        rw [show i' * sh.length + j - (i' * sh.length + off) = j - off by omega, List.getElem?_map, hc1]; rfl
                      · rw [if_neg hin, if_neg (by omega)]
                        exact ⟨u, hold, (hh.mono fun b hb => ⟨hb, setRow_other _ _ _ _ fun h' => (hφ b hb).2 (by rw [h']; exact hblk)⟩).deeper (Nat.le_max_left _ _)⟩
                    · rw [if_neg hii]
                      have hout : ¬ (i * sh.length + off ≤ i' * sh.length + j ∧ i' * sh.length + j < i * sh.length + off + s.cells.length) := by
                        rintro ⟨h1, h2⟩
                        rcases Nat.lt_or_gt_of_ne hii with h | h
                        · have : (i' + 1) * sh.length ≤ i * sh.length := Nat.mul_le_mul_right _ h
                          rw [Nat.succ_mul] at this; omega
                        · have : (i + 1) * sh.length ≤ i' * sh.length := Nat.mul_le_mul_right _ h
                          rw [Nat.succ_mul] at this; omega
                      rw [if_neg hout]
                      exact ⟨u, hold, (hh.mono fun b hb => ⟨hb, setRow_other _ _ _ _ fun h' => (hφ b hb).2 (by rw [h']; exact hblk)⟩).deeper (Nat.le_max_left _ _)⟩
                · obtain ⟨rfl, rfl⟩ := hlook_one ho'
                  exact .inr ⟨_, by simp, _, hl, hf⟩
                · obtain ⟨rfl, rfl⟩ := hlook_one ho'
                  rcases hf with hf | hf
                  · exact .inr (.inl ⟨_, by simp, _, hl, hf⟩)
                  · exact .inr (.inr ⟨_, _, hl, .inr hf, (hφ b hf).2⟩)
          · cases h
      · cases h
    · cases h
  · cases h
end Go.Proofs.Ythgneojhhocflaa
