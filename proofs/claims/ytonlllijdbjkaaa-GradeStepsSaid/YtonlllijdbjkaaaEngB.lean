/- EngU, EngV, EngW, EngX, EngY, EngZ, EngPart, EngFn, laid together. No condition. -/
import Derived.Test.YtonlllijdbjkaaaEngA
import Derived.Laws.DeepStrings4
import Derived.Laws.Concat
import Derived.Lib.UnsafeStr
/- A symbolic way through the code of a call: slices of an open length: append, make, a slice's part, a row that is written, bytes and texts. No condition. -/
set_option linter.unusedVariables false
namespace Go.Proofs.Ytonlllijdbjkaaa
open Go.RowKit

/-- The kinds of a type's cells. -/
def shT (P : Program) : Nat → TypeId → Option (List Sh)
  | 0, _ => none
  | d + 1, t => match P.underlying t with
    | some (.int k) => some [.int k]
    | some .bool => some [.bool]
    | some .string => some [.str]
    | some (.slice e) => (shT P d e).map fun s => [.sl s]
    | some (.array n e) => (shT P d e).map fun s => (List.replicate n s).flatten
    | some (.struct fs) => (fs.toList.mapM fun f => shT P d f.type).map List.flatten
    | _ => none
def isRowAt (hp : Hp) (id : Nat) : Bool := match hlook hp id with | some (.row _ _ _) => true | _ => false
def tgtOf (hp : Hp) (sh : List Sh) (e : TypeId) : RV → Option (List Nat × List (List Ct))
  | .sv (.one (.val _ (.slice none 0 0))) => some ([], [])
  | .sv (.one (.ext id)) => (match hlook hp id with
    | some (.row sh' t l) => bif shEqL sh' sh && Nat.beq t e then some ([id], l) else none
    | _ => none)
  | .sv (.one (.sl id 0 len cap)) => (match hlook hp id with
    | some (.cells cs t) => bif Nat.beq t e && Nat.beq cs.length (cap * sh.length) && Nat.ble len cap && Nat.ble cap 4096 && cs.all (fun c => c.ids.isEmpty) then (match rowsOf hp sh len (cs.take (len * sh.length)) with
      | some l => some ([id], l)
      | none => none) else none
    | _ => none)
  | _ => none
def srcOf (hp : Hp) (sh : List Sh) : RV → Option (List Nat × List Nat × List (List Ct))
  | .sv (.one (.val _ (.slice none 0 0))) => some ([], [], [])
  | .sv (.one (.ext id)) => (match (hlook hp id).bind HO.ls with
    | some p => bif shEqL p.1 sh then some ([], [id], p.2) else none
    | none => none)
  | .sv (.one (.sl id off m cap)) => (match hlook hp id with
    | some (.cells cs _) => (match rowsOf hp sh m ((cs.drop off).take (m * sh.length)) with
      | some l => some ((((cs.drop off).take (m * sh.length)).flatMap CV.ids).filter (isRowAt hp), id :: ((cs.drop off).take (m * sh.length)).flatMap CV.ids, l)
      | none => none)
    | _ => none)
  | _ => none
def opAppend (P : Program) (get : Operand → RV) (hp : Hp) (nx : Nat) (t : TypeId) (x y : Operand) : Option (Bool × Out) :=
  match P.underlying t with
  | some (.slice e) => (match shT P 8 e, P.info? e with
    | some sh, some i => (match tgtOf hp sh e (get x), srcOf hp sh (get y), i.zero with
      | some (T, l1), some (C, Y, l2), some z =>
        bif Nat.beq i.size sh.length && Nat.beq z.cells.size sh.length && Nat.blt 0 sh.length && T.all (fun id => !Y.any (Nat.beq id)) && (T ++ C).all (fun id => Nat.blt id nx) then
          some (decide (l1.length + l2.length ≤ 9223372036854775807 ∧ (l1.length + l2.length) * i.bytes ≤ 140737488355328), ⟨.sv (.one (.ext nx)), (nx, .row sh e (l1 ++ l2)) :: gones (T ++ C), nx + 1, T ++ C⟩)
        else none
      | _, _, _ => none)
    | _, _ => none)
  | _ => none
theorem tgtOf_ok {hp : Hp} {sh : List Sh} {el : TypeId} {r : RV} {T : List Nat} {l : List (List Ct)} (h : tgtOf hp sh el r = some (T, l)) {e : Env} {w : World} (hsat : Sat e (hlook hp) w) (C : List Nat) :
    ∃ φ1, Tgt hp e w sh el (T ++ C) (r.den e) l φ1 ∧ Fine hp e w (T ++ C) (r.den e) φ1 ∧ (∀ b, (r.den e).ownBlock = some b → ∃ id0 ∈ T, ∃ o0, hlook hp id0 = some o0 ∧ o0.owns e id0 b) := by
  unfold tgtOf at h
  split at h
  · cases h
    exact ⟨fun _ => False, ⟨⟨0, [], World.ownsRow_nil w 0 el sh.length, fun i hi => by simp at hi⟩, fun b hb => (by cases hb), ⟨_, _, _, rfl⟩⟩, fun b hb => False.elim hb, fun b hb => (by cases hb)⟩
  · rename_i id
    split at h
    · rename_i sh' t l' hl
      cases hb : (shEqL sh' sh && Nat.beq t el) with
      | false => rw [hb] at h; cases h
      | true =>
        rw [hb] at h
        simp only [cond_true, Option.some.injEq, Prod.mk.injEq] at h
        obtain ⟨rfl, rfl⟩ := h
        simp only [Bool.and_eq_true] at hb
        obtain rfl := shEqL_spec hb.1
        obtain rfl := Nat.eq_of_beq_eq_true hb.2
        obtain ⟨⟨d, xs, ho, hc⟩, hφ⟩ := hsat.holds _ _ hl
        have hblk : ∀ b, ((RV.sv (.one (.ext id))).den e).ownBlock = some b → ∃ id0 ∈ [id], ∃ o0, hlook hp id0 = some o0 ∧ o0.owns e id0 b := fun b hb => ⟨id, by simp, _, hl, hb⟩
        refine ⟨e.φ id, ⟨⟨d, xs, ho, hc⟩, fun b hb => ?_, ⟨_, _, _, rfl⟩⟩, fun b hb => ⟨(hφ b hb).1, (hφ b hb).2, .inr ⟨id, _, hl, .inr hb, (hφ b hb).2⟩⟩, hblk⟩
        obtain ⟨id0, h1, h2⟩ := hblk b hb
        exact ⟨id0, List.mem_append_left _ h1, h2⟩
    · cases h
  · rename_i id len cap
    split at h
    · rename_i cs t hl
      cases hb : (Nat.beq t el && Nat.beq cs.length (cap * sh.length) && Nat.ble len cap && Nat.ble cap 4096 && cs.all (fun c => c.ids.isEmpty)) with
      | false => rw [hb] at h; cases h
      | true =>
        rw [hb] at h
        simp only [cond_true] at h
        split at h
        · rename_i l' hr
          simp only [Option.some.injEq, Prod.mk.injEq] at h
          obtain ⟨rfl, rfl⟩ := h
          simp only [Bool.and_eq_true] at hb
          obtain ⟨⟨⟨⟨hb1, hb2⟩, hb3⟩, hb4⟩, hb5⟩ := hb
          obtain rfl := Nat.eq_of_beq_eq_true hb1
          have hb2 := Nat.eq_of_beq_eq_true hb2
          have hb3 := Nat.le_of_ble_eq_true hb3
          have hb4 := Nat.le_of_ble_eq_true hb4
          have hc := hsat.holds _ _ hl
          simp only [HO.holds] at hc
          obtain ⟨k1, k2, d, k3⟩ := rowsOf_ok hsat hr
          have hno : ∀ b, ¬ Nest hp e (cs.take (len * sh.length)) b := by
            rintro b ⟨i, hi, _⟩
            obtain ⟨c, hc', hi'⟩ := List.mem_flatMap.1 hi
            have := List.all_eq_true.1 hb5 c (List.mem_of_mem_take hc')
            simp only [List.isEmpty_iff] at this
            rw [this] at hi'; cases hi'
          have hblk : ∀ b, ((RV.sv (.one (.sl id 0 len cap))).den e).ownBlock = some b → ∃ id0 ∈ [id], ∃ o0, hlook hp id0 = some o0 ∧ o0.owns e id0 b := fun b hb => ⟨id, by simp, _, hl, by
            simp only [RV.den, SV.den, CV.den, Value.ownBlock, Option.some.injEq] at hb
            exact hb.symm⟩
          refine ⟨fun _ => False, ⟨⟨d, ((cs.take (len * sh.length)).map (CV.den e)), ?_, fun i hi j s hs => ?_⟩, fun b hb => ?_, ⟨_, _, _, rfl⟩⟩, fun b hb => False.elim hb, hblk⟩
          · refine ⟨by rw [List.length_map, k1, k2], .inr ⟨e.ρ id, cap, (cs.map (CV.den e)).toArray, by rw [k2]; rfl, Nat.zero_le _, hc, by omega, by simp only [maxLen]; omega, by simp [hb2], ?_⟩⟩
            rw [k2]; simp [List.map_take]
          · obtain ⟨c, hc', hh⟩ := k3 i (by omega) j s hs
            exact ⟨c.den e, by rw [List.getElem?_map, hc']; rfl, hh.mono fun b hb => absurd hb (hno b)⟩
          · obtain ⟨id0, h1, h2⟩ := hblk b hb
            exact ⟨id0, List.mem_append_left _ h1, h2⟩
        · cases h
    · cases h
  · cases h
theorem srcOf_ok {hp : Hp} {sh : List Sh} {r : RV} {C Y : List Nat} {l : List (List Ct)} (h : srcOf hp sh r = some (C, Y, l)) (hpos : 0 < sh.length) {e : Env} {w : World} (hsat : Sat e (hlook hp) w) {T : List Nat} {vx : Value} (hT : ∀ id ∈ T, id ∉ Y)
    (hx : ∀ b, vx.ownBlock = some b → ∃ id0 ∈ T, ∃ o0, hlook hp id0 = some o0 ∧ o0.owns e id0 b) : ∃ φ2, Srce w sh (r.den e) l φ2 ∧ Fine hp e w (T ++ C) vx φ2 := by
  -- what other names hang on is not the row's own block
  have apart : ∀ id ∈ Y, ∀ o, hlook hp id = some o → ∀ b, o.foot e id b → vx.ownBlock ≠ some b := by
    intro id hid o ho b hb h
    obtain ⟨id0, h1, o0, h2, h3⟩ := hx b h
    exact hsat.apart id0 o0 h2 id o ho (fun hh => hT id0 h1 (by rw [hh]; exact hid)) b h3 hb
  unfold srcOf at h
  split at h
  · cases h
    exact ⟨fun _ => False, ⟨0, none, 0, [], rfl, fun _ => ⟨rfl, rfl⟩, by simp, fun ad h => (by cases h), fun i hi => by simp at hi⟩, fun b hb => False.elim hb⟩
  · rename_i id
    split at h
    · rename_i p hp'
      cases hb : shEqL p.1 sh with
      | false => rw [hb] at h; cases h
      | true =>
        rw [hb] at h
        simp only [cond_true, Option.some.injEq, Prod.mk.injEq] at h
        obtain ⟨rfl, rfl, rfl⟩ := h
        obtain rfl := shEqL_spec hb
        obtain ⟨ob, hob, hls⟩ := Option.bind_eq_some_iff.1 hp'
        have hh := hsat.holds _ _ hob
        obtain ⟨d, a, cap, hv, h1, h2, h0, hc⟩ := HO.rowsAt hh hls
        have hφ : ∀ b, e.φ id b → b < w.heap.size ∧ ob.foot e id b ∧ ¬ ob.owns e id b := by
          cases ob with
          | cells _ _ => cases hls
          | grid sh l => exact fun b hb => ⟨hh.2 b hb, hb, fun h => h⟩
          | row sh t l => exact fun b hb => ⟨(hh.2 b hb).1, .inr hb, (hh.2 b hb).2⟩
          | elem _ _ _ => cases hls
          | gone => cases hls
          | tie _ _ _ => cases hls
          | part _ _ _ _ => cases hls
          | lent _ _ => cases hls
        have cellAt : ∀ bk off, a = some ⟨bk, off, none⟩ → ∀ q, q < p.2.length * p.1.length → ∃ u, w.cell? ⟨bk, off + q, none⟩ = some u := by
          intro bk off ha q hq
          have hj : q % p.1.length < p.1.length := Nat.mod_lt _ hpos
          have hi' : q / p.1.length < p.2.length := Nat.div_lt_of_lt_mul (by rw [Nat.mul_comm]; exact hq)
          obtain ⟨bk', off', ha', _, hcell⟩ := hc _ hi'
          rw [ha] at ha'
          cases ha'
          obtain ⟨u, hu, _⟩ := hcell (q % p.1.length) _ (List.getElem?_eq_getElem hj)
          exact ⟨u, by rw [← hu, Nat.add_assoc, Nat.div_add_mod']⟩
        refine ⟨e.φ id, ⟨d, a, cap, (List.range (p.2.length * p.1.length)).map fun q => match a with | some ad => (w.cell? (ad.add q)).getD undef | none => undef, hv, fun ha => ⟨by have := h0 ha; omega, h0 ha⟩, by simp, fun ad ha q u hu => ?_, fun i hi j s hs => ?_⟩, fun b hb => ⟨(hφ b hb).1, apart id (by simp) ob hob b (hφ b hb).2.1, .inr ⟨id, ob, hob, (hφ b hb).2.1, (hφ b hb).2.2⟩⟩⟩
        · subst ha
          rw [List.getElem?_map] at hu
          obtain ⟨q', hq', rfl⟩ := Option.map_eq_some_iff.1 hu
          have hlt : q < p.2.length * p.1.length := by
            rcases Nat.lt_or_ge q (p.2.length * p.1.length) with h | h
            · exact h
            · rw [List.getElem?_eq_none (by simpa using h)] at hq'; cases hq'
          rw [List.getElem?_range hlt] at hq'
          cases hq'
          have hlen : 0 < p.2.length := by
            rcases Nat.eq_zero_or_pos p.2.length with h | h
            · rw [h] at hlt; simp at hlt
            · exact h
          obtain ⟨bk, off, ha, _⟩ := hc 0 hlen
          cases ha
          obtain ⟨u, hu'⟩ := cellAt bk off rfl q hlt
          show w.cell? _ = some ((w.cell? _).getD undef)
          rw [addr_add, hu']; rfl
        · obtain ⟨bk, off, ha, _, hcell⟩ := hc i hi
          subst ha
          obtain ⟨u, hu, hhu⟩ := hcell j s hs
          have hj : j < p.1.length := by
            rcases Nat.lt_or_ge j p.1.length with h | h
            · exact h
            · rw [List.getElem?_eq_none h] at hs; cases hs
          have hlt : i * p.1.length + j < p.2.length * p.1.length := by
            have : (i + 1) * p.1.length ≤ p.2.length * p.1.length := Nat.mul_le_mul_right _ hi
            rw [Nat.succ_mul] at this
            omega
          refine ⟨u, ?_, hhu⟩
          rw [List.getElem?_map, List.getElem?_range hlt]
          show some ((w.cell? _).getD undef) = some u
          rw [addr_add, ← Nat.add_assoc, hu]; rfl
    · cases h
  · rename_i id off m cap
    split at h
    · rename_i cs t hl
      split at h
      · rename_i l' hr
        simp only [Option.some.injEq, Prod.mk.injEq] at h
        obtain ⟨rfl, rfl, rfl⟩ := h
        have hc := hsat.holds _ _ hl
        obtain ⟨k1, k2, d, k3⟩ := rowsOf_ok hsat hr
        refine ⟨Nest hp e ((cs.drop off).take (m * sh.length)), ⟨d, some ⟨e.ρ id, off, none⟩, cap, ((cs.drop off).take (m * sh.length)).map (CV.den e), by rw [k2]; rfl, fun h => (by cases h), by simp only [List.length_map, k1, k2], fun ad had j u hu => ?_, fun i hi j s hs => ?_⟩, fun b hb => ?_⟩
        · cases had
          rw [List.getElem?_map] at hu
          obtain ⟨c, hc', rfl⟩ := Option.map_eq_some_iff.1 hu
          rw [List.getElem?_take] at hc'
          split at hc'
          · rw [List.getElem?_drop] at hc'
            have := holds_cells_cell hc (off + j) c hc'
            rw [addr_add]
            rw [Nat.zero_add] at this
            exact this
          · cases hc'
        · obtain ⟨c, hc', hh⟩ := k3 i (by omega) j s hs
          exact ⟨c.den e, by rw [List.getElem?_map, hc']; rfl, hh⟩
        · obtain ⟨i, hi, o, ho, hf⟩ := hb
          refine ⟨HO.foot_lt (hsat.holds _ _ ho) hf, apart i (List.mem_cons_of_mem _ hi) o ho b hf, ?_⟩
          by_cases hown : o.owns e i b
          · cases ho' : isRowAt hp i with
            | true => exact .inl ⟨i, List.mem_append_right _ (List.mem_filter.2 ⟨hi, ho'⟩), o, ho, hown⟩
            | false =>
              -- cells named in a row's cells: none
              exfalso
              obtain ⟨c, hcm, hci⟩ := List.mem_flatMap.1 hi
              have := rowsOf_ext hr c hcm i hci
              obtain ⟨p, hp'⟩ := this
              rw [ho] at hp'
              cases o with
              | cells _ _ => cases hp'
              | grid _ _ => exact hown
              | row _ _ _ => simp [isRowAt, ho] at ho'
              | elem _ _ _ => cases hp'
              | gone => cases hp'
              | tie _ _ _ => cases hp'
              | part _ _ _ _ => cases hp'
              | lent _ _ => cases hp'
          · exact .inr ⟨i, o, ho, hf, hown⟩
      · cases h
    · cases h
  · cases h
end Go.Proofs.Ytonlllijdbjkaaa

/- A symbolic way through the code of a call: slices of an open length: append, make, a slice's part, a row that is written, bytes and texts. No condition. -/
set_option linter.unusedVariables false
namespace Go.Proofs.Ytonlllijdbjkaaa
open Go.RowKit

theorem opAppend_ok {P : Program} {o : Oper} {get : Operand → RV} {hp : Hp} {nx : Nat} {out : Out} {t : TypeId} {x y : Operand} {c : Call} {b : Bool} (ho : o.op = .call c) (hc : c.callee = .builtin .append) (ha : c.args.toList = [x, y]) (hat : c.argTypes.toList = [t, t])
    (h : opAppend P get hp nx t x y = some (b, out)) (hb : b = true) : OpOk P o get hp nx out := by
  have ha' : c.args = #[x, y] := by apply Array.ext'; simpa using ha
  have hat' : c.argTypes = #[t, t] := by apply Array.ext'; simpa using hat
  have hop : o.op.operands = #[x, y] := by rw [ho]; simp [Op.operands, Call.operands, hc, ha']
  unfold opAppend at h
  split at h
  · rename_i el hu
    split at h
    · rename_i sh i hsh hi
      split at h
      · rename_i T l1 C Y l2 z hT hS hz
        cases hbq : (Nat.beq i.size sh.length && Nat.beq z.cells.size sh.length && Nat.blt 0 sh.length && T.all (fun id => !Y.any (Nat.beq id)) && (T ++ C).all (fun id => Nat.blt id nx)) with
        | false => rw [hbq] at h; cases h
        | true =>
          rw [hbq] at h
          simp only [cond_true, Option.some.injEq, Prod.mk.injEq] at h
          obtain ⟨rfl, rfl⟩ := h
          simp only [decide_eq_true_eq] at hb
          simp only [Bool.and_eq_true, List.all_eq_true] at hbq
          obtain ⟨⟨⟨⟨q1, q2⟩, q3⟩, q4⟩, q5⟩ := hbq
          have q1 := Nat.eq_of_beq_eq_true q1
          have q2 := Nat.eq_of_beq_eq_true q2
          have q3 : 0 < sh.length := Nat.le_of_ble_eq_true q3
          have hTY : ∀ id ∈ T, id ∉ Y := fun id hid hm => by
            have := q4 id hid
            have h2 : Y.any (Nat.beq id) = true := List.any_eq_true.2 ⟨id, hm, Nat.beq_refl id⟩
            rw [h2] at this; cases this
          intro e a w hx hsat K Q hK
          have hx1 := hx x (by rw [hop]; simp)
          have hx2 := hx y (by rw [hop]; simp)
          obtain ⟨φ1, k1, k2, k3⟩ := tgtOf_ok hT hsat C
          obtain ⟨φ2, k4, k5⟩ := srcOf_ok hS q3 hsat hTY k3
          obtain ⟨v', w', e', g1, g2, g3⟩ := append_core (P := P) (ty := o.type) (nx := nx) hsat hu hi hz q1 q2 q3 (fun id hid => Nat.le_of_ble_eq_true (q5 id hid)) k1 k2 k4 k5 hb.1 hb.2
          refine wp_value (w' := w') (v := v') ?_ ?_
          · simp only [execOp, ho, resolve, hc, ha', hat', List.map_toArray, List.map_cons, List.map_nil, hx1, hx2, Sem.run_bind, Sem.run_pure, Result.andThen_ok, invoke, builtin, g1]
          · rw [g2]; exact hK e' w' g3
      · cases h
    · cases h
  · cases h

/-- A row, some of its cells another. -/
def updRow (w off : Nat) (cts r : List Ct) : List Ct := (List.range w).map fun j => bif Nat.ble off j && Nat.blt j (off + cts.length) then cts.getD (j - off) (.i 0) else r.getD j (.i 0)
def opStoreE (P : Program) (get : Operand → RV) (hp : Hp) (nx : Nat) (t : TypeId) (x y : Operand) : Option Out :=
  match get x, get y with
  | .sv (.one (.eptr q off)), .sv s => (match hlook hp q with
    | some (.elem id i w) => (match hlook hp id, sizeP P t with
      | some (.row sh el l), some n => bif s.plain && Nat.beq w sh.length && Nat.beq s.cells.length n && Nat.ble (off + n) sh.length && s.cells.all (fun c => c.ids.isEmpty) then
          (match ctsOf hp s.cells ((sh.drop off).take n) with
          | some cts => some ⟨RV.und, [(id, .row sh el (l.set i (updRow w off cts (l.getD i []))))], nx, [id]⟩
          | none => none) else none
      | _, _ => none)
    | _ => none)
  | _, _ => none
theorem rd_set {l : List (List Ct)} {i : Nat} {r : List Ct} (hi : i < l.length) (i' j : Nat) : rd (l.set i r) i' j = if i' = i then r.getD j (.i 0) else rd l i' j := by
  unfold rd
  simp only [List.getD_eq_getElem?_getD (l := l.set i r), List.getElem?_set]
  by_cases h : i' = i
  · subst h; simp [hi]
  · rw [if_neg (fun h' => h h'.symm), if_neg h]; simp [List.getD_eq_getElem?_getD]
theorem updRow_get {w off : Nat} {cts r : List Ct} {j : Nat} (hj : j < w) : (updRow w off cts r).getD j (.i 0) = if off ≤ j ∧ j < off + cts.length then cts.getD (j - off) (.i 0) else r.getD j (.i 0) := by
  unfold updRow
  rw [List.getD_eq_getElem?_getD, List.getElem?_map, List.getElem?_range hj]
  simp only [Option.map_some, Option.getD_some]
  by_cases h1 : off ≤ j
  · rw [show Nat.ble off j = true from Nat.ble_eq_true_of_le h1]
    by_cases h2 : j < off + cts.length
    · rw [show Nat.blt j (off + cts.length) = true from Nat.ble_eq_true_of_le h2, if_pos ⟨h1, h2⟩]; rfl
    · rw [if_neg (fun h => h2 h.2)]
      cases hb : Nat.blt j (off + cts.length) with
      | true => exact absurd (Nat.le_of_ble_eq_true hb) h2
      | false => rfl
  · rw [if_neg (fun h => h1 h.1)]
    cases hb : Nat.ble off j with
    | true => exact absurd (Nat.le_of_ble_eq_true hb) h1
    | false => rfl
theorem opStoreE_ok {P : Program} {o : Oper} {get : Operand → RV} {hp : Hp} {nx : Nat} {out : Out} {t : TypeId} {x y : Operand} (ho : o.op = .store t x y) (h : opStoreE P get hp nx t x y = some out) : OpOk P o get hp nx out := by
  unfold opStoreE at h
  split at h
  · rename_i q off s hgx hgy
    split at h
    · rename_i id i wd hq
      split at h
      · rename_i sh el l n hl hn
        cases hb : (s.plain && Nat.beq wd sh.length && Nat.beq s.cells.length n && Nat.ble (off + n) sh.length && s.cells.all (fun c => c.ids.isEmpty)) with
        | false => rw [hb] at h; cases h
        | true =>
          rw [hb] at h
          simp only [cond_true] at h
          split at h
          · rename_i cts hcts
            cases h
            simp only [Bool.and_eq_true] at hb
            obtain ⟨⟨⟨⟨b1, b2⟩, b3⟩, b4⟩, b5⟩ := hb
            obtain rfl := Nat.eq_of_beq_eq_true b2
            obtain rfl := Nat.eq_of_beq_eq_true b3
            have b4 := Nat.le_of_ble_eq_true b4
            intro e a w hx hsat K Q hK
            have hx1 := hx x (by rw [ho]; simp [Op.operands])
            have hx2 := hx y (by rw [ho]; simp [Op.operands])
            rw [hgx] at hx1
            rw [hgy] at hx2
            obtain ⟨⟨a0, ha0, hsp, hqa⟩, hi⟩ := hsat.holds _ _ hq
            obtain ⟨⟨d, xs, hown, hc⟩, hφ⟩ := hsat.holds _ _ hl
            obtain ⟨g1, g2, d2, g3⟩ := ctsOf_ok hsat hcts
            have hno : ∀ b, ¬ Nest hp e s.cells b := by
              rintro b ⟨i', hi', _⟩
              obtain ⟨c, hc', hi''⟩ := List.mem_flatMap.1 hi'
              have := List.all_eq_true.1 b5 c hc'
              simp only [List.isEmpty_iff] at this
              rw [this] at hi''; cases hi''
            rcases hown.2 with ⟨hv, _⟩ | ⟨g, cap, cur, hv, _, hg, hnc, hcm, hcs, htake⟩
            · simp only [Env.slv, Value.slice.injEq] at hv
              rw [hv.1] at ha0; cases ha0
            · have hv' := hv
              simp only [Env.slv, Value.slice.injEq] at hv
              rw [hv.1] at ha0
              cases ha0
              rw [hv.2.1] at hi
              have hlen : (l.length : Nat) * sh.length ≤ cur.size := by rw [hcs]; exact Nat.mul_le_mul_right _ hnc
              have hi1 : (i + 1) * sh.length ≤ l.length * sh.length := Nat.mul_le_mul_right _ hi
              rw [Nat.succ_mul] at hi1
              have hrun := run_storeCells_at (P := P) g (i * sh.length + off) el (s.cells.map (CV.den e)) 0 _ w hg (by simp; omega) (splain_one e b1)
              rw [Nat.add_zero] at hrun
              refine wp_skipped (w' := w.setRow g (cur.toList.take (i * sh.length + off) ++ s.cells.map (CV.den e) ++ cur.toList.drop (i * sh.length + off + (s.cells.map (CV.den e)).length)).toArray) ?_ ?_
              · have hx1' : a.eval x = .pointer (some ⟨g, i * sh.length + off, none⟩) := by rw [hx1]; simp [RV.den, SV.den, CV.den, Env.blk, Env.off, hqa]
                have hx2' : a.eval y = s.den e := hx2
                simp only [execOp, ho, Instr.storeAt, hx1', hx2', Instr.sureAddr, Sem.run_bind, Sem.run_pure, Result.andThen_ok, storeVar]
                rw [SV.cells_den e b1]
                simp only [sizeP_run hn, Result.andThen_ok, List.size_toArray, List.length_map, ne_eq, not_true_eq_false, if_false]
                rw [hrun]
                simp only [Result.andThen_ok, List.length_map]
              · have hblk : (e.slv id).ownBlock = some g := by rw [hv']; rfl
                refine hK e _ ⟨fun _ _ => .refl _ _, rfl, rfl, rfl, by simp [World.setRow], fun k hk hne => setRow_other _ _ _ _ fun h' => hne id (by simp) _ hl (by subst h'; exact hblk), ⟨fun id' o' ho' => ?_, fun id1 o1 ho1 id2 o2 ho2 hne => absurd ((hlook_one ho1).1.trans (hlook_one ho2).1.symm) hne⟩, fun id' o' b ho' hf => ?_, fun id' o' b ho' hf => ?_⟩
                · obtain ⟨rfl, rfl⟩ := hlook_one ho'
                  have hcur : ∀ p, (cur.toList.take (i * sh.length + off) ++ s.cells.map (CV.den e) ++ cur.toList.drop (i * sh.length + off + (s.cells.map (CV.den e)).length))[p]? =
                      if i * sh.length + off ≤ p ∧ p < i * sh.length + off + s.cells.length then (s.cells.map (CV.den e))[p - (i * sh.length + off)]? else cur[p]? := by
                    intro p
                    have hmin : min (i * sh.length + off) cur.size = i * sh.length + off := by omega
                    simp only [List.length_map, List.getElem?_append, List.length_append, List.length_take, Array.length_toList, hmin, List.getElem?_take, List.getElem?_drop, Array.getElem?_toList]
                    by_cases p1 : p < i * sh.length + off
                    · rw [if_pos (by omega), if_pos p1, if_pos p1, if_neg (by omega)]
                    · by_cases p2 : p < i * sh.length + off + s.cells.length
                      · rw [if_pos p2, if_neg p1, if_pos (by omega)]
                      · rw [if_neg p2, if_neg (by omega)]
                        congr 1; omega
                  refine ⟨⟨max d d2, (cur.toList.take (i * sh.length + off) ++ s.cells.map (CV.den e) ++ cur.toList.drop (i * sh.length + off + (s.cells.map (CV.den e)).length)).take (l.length * sh.length), ?_, fun i' hi' j s' hs' => ?_⟩, fun b hb => ⟨by have := (hφ b hb).1; simpa [World.setRow] using this, (hφ b hb).2⟩⟩
                  · rw [List.length_set]
                    refine ⟨?_, .inr ⟨g, cap, _, hv', Nat.zero_le _, setRow_heap w g cur _ el (0, 0) hg, hnc, hcm, ?_, rfl⟩⟩
                    · simp only [List.length_take, List.length_append, List.length_map, List.length_drop, Array.length_toList]; omega
                    · simp only [List.size_toArray, List.length_append, List.length_map, List.length_take, List.length_drop, Array.length_toList]; omega
                  · rw [List.length_set] at hi'
                    have hj : j < sh.length := by
                      rcases Nat.lt_or_ge j sh.length with h | h
                      · exact h
                      · rw [List.getElem?_eq_none h] at hs'; cases hs'
                    have hi1' : (i' + 1) * sh.length ≤ l.length * sh.length := Nat.mul_le_mul_right _ hi'
                    rw [Nat.succ_mul] at hi1'
                    rw [List.getElem?_take, if_pos (by omega), hcur, rd_set hi]
                    obtain ⟨u, hu, hh⟩ := hc i' hi' j s' hs'
                    have hold : cur[i' * sh.length + j]? = some u := by
                      rw [← htake, List.getElem?_take, if_pos (by omega)] at hu
                      simpa using hu
                    have hctl : cts.length = s.cells.length := by omega
                    by_cases hii : i' = i
                    · subst hii
                      rw [if_pos rfl, updRow_get hj, hctl]
                      by_cases hin : off ≤ j ∧ j < off + s.cells.length
                      · rw [if_pos hin, if_pos (by omega)]
                        obtain ⟨c, hc1, hc2⟩ := g3 (j - off) s' (by rw [List.getElem?_take, if_pos (by omega), List.getElem?_drop, ← hs']; congr 1; omega)
                        refine ⟨c.den e, ?_, (hc2.mono fun b hb => absurd hb (hno b)).deeper (Nat.le_max_right _ _)⟩
                        rw [show i' * sh.length + j - (i' * sh.length + off) = j - off by omega, List.getElem?_map, hc1]; rfl
                      · rw [if_neg hin, if_neg (by omega)]
                        exact ⟨u, hold, (hh.mono fun b hb => ⟨hb, setRow_other _ _ _ _ fun h' => (hφ b hb).2 (by rw [h']; exact hblk)⟩).deeper (Nat.le_max_left _ _)⟩
                    · rw [if_neg hii]
                      have hout : ¬ (i * sh.length + off ≤ i' * sh.length + j ∧ i' * sh.length + j < i * sh.length + off + s.cells.length) := by
                        rintro ⟨h1, h2⟩
                        rcases Nat.lt_or_gt_of_ne hii with h | h
                        · have : (i' + 1) * sh.length ≤ i * sh.length := Nat.mul_le_mul_right _ h
                          rw [Nat.succ_mul] at this; omega
                        · have : (i + 1) * sh.length ≤ i' * sh.length := Nat.mul_le_mul_right _ h
                          rw [Nat.succ_mul] at this; omega
                      rw [if_neg hout]
                      exact ⟨u, hold, (hh.mono fun b hb => ⟨hb, setRow_other _ _ _ _ fun h' => (hφ b hb).2 (by rw [h']; exact hblk)⟩).deeper (Nat.le_max_left _ _)⟩
                · obtain ⟨rfl, rfl⟩ := hlook_one ho'
                  exact .inr ⟨_, by simp, _, hl, hf⟩
                · obtain ⟨rfl, rfl⟩ := hlook_one ho'
                  rcases hf with hf | hf
                  · exact .inr (.inl ⟨_, by simp, _, hl, hf⟩)
                  · exact .inr (.inr ⟨_, _, hl, .inr hf, (hφ b hf).2⟩)
          · cases h
      · cases h
    · cases h
  · cases h
end Go.Proofs.Ytonlllijdbjkaaa

/- A symbolic way through the code of a call: a slice's part, new slices, bytes and texts. No condition. -/
set_option linter.unusedVariables false
namespace Go.Proofs.Ytonlllijdbjkaaa
open Go.RowKit

def loOf (get : Operand → RV) : Option Operand → Option Int
  | none => some 0
  | some x => intOfRV (get x)
def hiOf (get : Operand → RV) (n : Nat) : Option Operand → Option Int
  | none => some n
  | some x => intOfRV (get x)
def partOf (l : List (List Ct)) (lo hi : Int) : List (List Ct) := (l.drop lo.toNat).take (hi.toNat - lo.toNat)
theorem lo_run {P : Program} {get : Operand → RV} {e : Env} {a : Act} {lo : Option Operand} {l : Int} {h : Nat} {code : BoundsCode} (hl : loOf get lo = some l) (hx : ∀ x, lo = some x → a.eval x = (get x).den e) (h0 : 0 ≤ l) (h1 : l ≤ h) (w : World) :
    (match lo.map a.eval with | some v => Instr.sliceBound v h code | none => pure 0 : Sem Nat).run P w = .ok l.toNat w := by
  cases lo with
  | none => simp only [loOf, Option.some.injEq] at hl; subst hl; rfl
  | some x =>
    obtain ⟨k, hk⟩ := intOfRV_spec hl e
    simp only [Option.map_some, hx x rfl, hk]
    exact run_sliceBound w k l h code h0 h1
theorem hi_run {P : Program} {get : Operand → RV} {e : Env} {a : Act} {hi : Option Operand} {n cap : Nat} {h : Int} {code : BoundsCode} (hl : hiOf get n hi = some h) (hx : ∀ x, hi = some x → a.eval x = (get x).den e) (h0 : 0 ≤ h) (h1 : h ≤ cap) (w : World) :
    (match hi.map a.eval with | some v => Instr.sliceBound v cap code | none => pure n : Sem Nat).run P w = .ok h.toNat w := by
  cases hi with
  | none => simp only [hiOf, Option.some.injEq] at hl; subst hl; rfl
  | some x =>
    obtain ⟨k, hk⟩ := intOfRV_spec hl e
    simp only [Option.map_some, hx x rfl, hk]
    exact run_sliceBound w k h cap code h0 h1
theorem bounds_run {P : Program} {get : Operand → RV} {e : Env} {a : Act} {b : Bool} {lo hi : Option Operand} {n cap : Nat} {l h : Int} (hl : loOf get lo = some l) (hh : hiOf get n hi = some h) (hx : ∀ x, lo = some x ∨ hi = some x → a.eval x = (get x).den e)
    (h0 : 0 ≤ l) (h1 : l ≤ h) (h2 : h ≤ cap) (w : World) : (Instr.sliceBounds b n cap (lo.map a.eval) (hi.map a.eval) none).run P w = .ok (l.toNat, h.toNat, cap) w := by
  have g1 := lo_run (P := P) (h := h.toNat) (code := .sliceB) hl (fun x hx' => hx x (.inl hx')) h0 (by omega) w
  have g2 := hi_run (P := P) (cap := cap) (code := if b then .sliceAcap else .sliceAlen) hh (fun x hx' => hx x (.inr hx')) (by omega) h2 w
  unfold Instr.sliceBounds
  cases hi with
  | none =>
    simp only [Option.map_none, Sem.run_pure, Result.ok.injEq, and_true] at g2
    subst g2
    cases lo with
    | none =>
      simp only [Option.map_none, Sem.run_pure, Result.ok.injEq, and_true] at g1 ⊢
      simp only [Sem.run_bind, Sem.run_pure, Result.andThen_ok, ← g1]
    | some x => simp only [Option.map_none, Option.map_some] at g1 ⊢; simp only [Sem.run_bind, Sem.run_pure, Result.andThen_ok, Option.isSome_none, Bool.false_eq_true, if_false, g1]
  | some y =>
    simp only [Option.map_some] at g2
    cases lo with
    | none =>
      simp only [Option.map_none, Option.map_some, Sem.run_pure, Result.ok.injEq, and_true] at g1 ⊢
      simp only [Sem.run_bind, Sem.run_pure, Result.andThen_ok, g2, ← g1]
    | some x => simp only [Option.map_some] at g1 ⊢; simp only [Sem.run_bind, Sem.run_pure, Result.andThen_ok, Option.isSome_none, Bool.false_eq_true, if_false, g2, g1]
/-- A part of a slice that is read alone, of a text, of a whole array of one's own. -/
def opSliceE (P : Program) (get : Operand → RV) (hp : Hp) (nx : Nat) (t : TypeId) (x : Operand) (lo hi mx : Option Operand) : Option (Bool × Out) :=
  match mx, get x, P.underlying t with
  | none, .sv (.one (.ext id)), some (.slice e) => (match hlook hp id, sizeP P e with
    | some (.grid sh l), some s => (match loOf get lo, hiOf get l.length hi with
      | some a, some b => bif Nat.beq s sh.length && Nat.blt id nx then some (decide (0 ≤ a ∧ a ≤ b ∧ b ≤ l.length), ⟨.sv (.one (.ext nx)), [(nx, .grid sh (partOf l a b))], nx + 1, []⟩) else none
      | _, _ => none)
    | _, _ => none)
  | none, .sv (.one (.val _ (.string s))), some .string => (match loOf get lo, hiOf get s.size hi with
    | some a, some b => some (decide (0 ≤ a ∧ a ≤ b ∧ b ≤ s.size), ⟨.sv (.one (.val false (.string (s.extract a.toNat b.toNat)))), [], nx + 1, []⟩)
    | _, _ => none)
  | none, .sv (.one (.ptr id off)), some (.array n e) => (match lo, hi, sizeP P e with
    | none, none, some s => some (true, ⟨.sv (.one (.sl id off n n)), [], nx, []⟩)
    | _, _, _ => none)
  | _, _, _ => none
theorem rd_part {l : List (List Ct)} {lo hi : Int} {i j : Nat} (h : i < hi.toNat - lo.toNat) : rd (partOf l lo hi) i j = rd l (lo.toNat + i) j := by
  unfold rd partOf
  have : ((l.drop lo.toNat).take (hi.toNat - lo.toNat)).getD i [] = l.getD (lo.toNat + i) [] := by
    simp [List.getD_eq_getElem?_getD, h]
  rw [this]
theorem opSliceE_ok {P : Program} {o : Oper} {get : Operand → RV} {hp : Hp} {nx : Nat} {out : Out} {t : TypeId} {x : Operand} {lo hi mx : Option Operand} {b : Bool} (ho : o.op = .slice t x lo hi mx) (h : opSliceE P get hp nx t x lo hi mx = some (b, out)) (hb : b = true) : OpOk P o get hp nx out := by
  have hmem : ∀ y, lo = some y ∨ hi = some y → y ∈ o.op.operands := by
    intro y hy
    rw [ho]
    rcases hy with rfl | rfl <;> simp [Op.operands]
  have hmx : x ∈ o.op.operands := by rw [ho]; simp [Op.operands]
  unfold opSliceE at h
  split at h
  · rename_i id el hg hu
    split at h
    · rename_i sh l s hl hs
      split at h
      · rename_i la lb h1 h2
        cases hbq : (Nat.beq s sh.length && Nat.blt id nx) with
        | false => rw [hbq] at h; cases h
        | true =>
          rw [hbq] at h
          simp only [cond_true, Option.some.injEq, Prod.mk.injEq] at h
          obtain ⟨rfl, rfl⟩ := h
          simp only [Bool.and_eq_true] at hbq
          obtain rfl := Nat.eq_of_beq_eq_true hbq.1
          have hid : id < nx := Nat.le_of_ble_eq_true hbq.2
          simp only [decide_eq_true_eq] at hb
          obtain ⟨q1, q2, q3⟩ := hb
          intro e a w hx hsat K Q hK
          have hx1 := hx x hmx
          rw [hg] at hx1
          obtain ⟨⟨d, ad, cap, hv, k1, k2, k0, k3⟩, hφ⟩ := hsat.holds _ _ hl
          have hx1' : a.eval x = .slice ad l.length cap := by rw [hx1]; exact hv
          have hbd := bounds_run (P := P) (b := true) (n := l.length) (cap := cap) h1 h2 (fun y hy => hx y (hmem y hy)) q1 q2 (by omega) w
          let ad' : Option Addr := if cap = la.toNat then ad else ad.map (·.add (la.toNat * sh.length))
          refine wp_value (w' := w) (v := .slice ad' (lb.toNat - la.toNat) (cap - la.toNat)) ?_ ?_
          · simp only [execOp, ho, hx1', Option.map_none, Instr.sliceAt, Instr.slice, Sem.run_bind, run_underlying hu, Result.andThen_ok, hbd, sizeP_run hs, Sem.run_pure, ad']
          · have hσ : (e.setS nx (ad', lb.toNat - la.toNat, cap - la.toNat) (e.φ id)).slv nx = .slice ad' (lb.toNat - la.toNat) (cap - la.toNat) := by rw [Env.setS_slv]
            have hlen : (partOf l la lb).length = lb.toNat - la.toNat := by simp [partOf]; omega
            have := hK (e.setS nx (ad', lb.toNat - la.toNat, cap - la.toNat) (e.φ id)) w (PostOp.view (v := .sv (.one (.ext nx))) (up := [(nx, .grid sh (partOf l la lb))]) (nx' := nx + 1) (fun id' h => Env.setS_same (by omega)) fun id' o' h => ?_)
            · simpa [RV.den, SV.den, CV.den, hσ] using this
            · obtain ⟨rfl, rfl⟩ := hlook_one h
              refine ⟨⟨⟨d, ad', cap - la.toNat, by rw [hσ, hlen], by omega, by omega, fun hn => ?_, fun i hi => ?_⟩, fun b hb => hφ b (by rw [Env.setS_φ] at hb; exact hb)⟩, fun _ h => h, fun b hb => ⟨id, _, hl, (by
                have hb' : (e.setS id' (ad', lb.toNat - la.toNat, cap - la.toNat) (e.φ id)).φ id' b := hb
                rw [Env.setS_φ] at hb'; exact hb'), fun h => h⟩⟩
              · have : ad = none := by
                  simp only [ad'] at hn
                  split at hn
                  · exact hn
                  · cases ad with
                    | none => rfl
                    | some _ => cases hn
                have := k0 this
                omega
              · rw [hlen] at hi
                obtain ⟨bk, off, hbk, hf, hcell⟩ := k3 (la.toNat + i) (by omega)
                refine ⟨bk, off + la.toNat * sh.length, ?_, by rw [Env.setS_φ]; exact hf, fun j s hs => ?_⟩
                · simp only [ad']
                  rw [if_neg (by omega), hbk]
                  simp [addr_add]
                · obtain ⟨u, hu', hh⟩ := hcell j s hs
                  refine ⟨u, ?_, ?_⟩
                  · rw [← hu', Nat.add_mul]
                    congr 2
                    omega
                  · rw [rd_part hi, Env.setS_φ]; exact hh
      · cases h
    · cases h
  · rename_i k s hg hu
    split at h
    · rename_i la lb h1 h2
      simp only [Option.some.injEq, Prod.mk.injEq] at h
      obtain ⟨rfl, rfl⟩ := h
      simp only [decide_eq_true_eq] at hb
      obtain ⟨q1, q2, q3⟩ := hb
      intro e a w hx hsat K Q hK
      have hx1 := hx x hmx
      rw [hg] at hx1
      have hx1' : a.eval x = .string s := hx1
      have hbd := bounds_run (P := P) (b := false) (n := s.size) (cap := s.size) h1 h2 (fun y hy => hx y (hmem y hy)) q1 q2 (by omega) w
      refine wp_value (w' := w) (v := .string (s.extract la.toNat lb.toNat)) ?_ (hK e w (PostOp.none e _ nx _ _ w))
      simp only [execOp, ho, hx1', Option.map_none, Instr.sliceAt, Instr.slice, Sem.run_bind, run_underlying hu, Result.andThen_ok, Option.isSome_none, Bool.false_eq_true, if_false, hbd, Sem.run_pure]
    · cases h
  · rename_i id off n el hg hu
    split at h
    · rename_i s hs
      simp only [Option.some.injEq, Prod.mk.injEq] at h
      obtain ⟨rfl, rfl⟩ := h
      intro e a w hx hsat K Q hK
      have hx1 := hx x hmx
      rw [hg] at hx1
      have hx1' : a.eval x = .pointer (some ⟨e.ρ id, off, none⟩) := hx1
      refine wp_value (w' := w) (v := .slice (some ⟨e.ρ id, off, none⟩) n n) ?_ (hK e w (PostOp.none e _ nx _ _ w))
      simp only [execOp, ho, hx1', Option.map_none, Instr.sliceAt, Instr.sureAddr, Instr.sliceBounds, Sem.run_bind, run_underlying hu, Result.andThen_ok, sizeP_run hs, Sem.run_pure, Nat.zero_mul, addr_add, Nat.add_zero, Nat.sub_zero, ite_self]
    · cases h
  · cases h

/-- make. -/
def opMake (P : Program) (get : Operand → RV) (nx : Nat) (t : TypeId) (x y : Operand) : Option (Bool × Out) :=
  match P.underlying t, intOfRV (get x), intOfRV (get y) with
  | some (.slice e), some n, some c => (match shT P 8 e, P.info? e with
    | some sh, some i => (match i.zero with
      | some z => (match ctsOf [] (z.cells.toList.map (.val true)) sh with
        | some r => bif Nat.beq i.size sh.length && Nat.beq z.cells.size sh.length && Nat.blt 0 sh.length then
            some (decide (0 ≤ n ∧ n ≤ c ∧ i.bytes * c ≤ 281474976710656 ∧ c ≤ 9223372036854775807), ⟨.sv (.one (.ext nx)), [(nx, .row sh e (List.replicate n.toNat r))], nx + 1, []⟩) else none
        | none => none)
      | none => none)
    | _, _ => none)
  | _, _, _ => none
theorem rd_replicate {n : Nat} {r : List Ct} {i j : Nat} (h : i < n) : rd (List.replicate n r) i j = r.getD j (.i 0) := by
  unfold rd
  simp [List.getD_eq_getElem?_getD, h]
theorem opMake_ok {P : Program} {o : Oper} {get : Operand → RV} {hp : Hp} {nx : Nat} {out : Out} {t : TypeId} {x y : Operand} {b : Bool} (ho : o.op = .makeSlice t x y) (h : opMake P get nx t x y = some (b, out)) (hb : b = true) : OpOk P o get hp nx out := by
  unfold opMake at h
  split at h
  · rename_i el n c hu hn hc
    split at h
    · rename_i sh i hsh hi
      split at h
      · rename_i z hz
        split at h
        · rename_i r hr
          cases hbq : (Nat.beq i.size sh.length && Nat.beq z.cells.size sh.length && Nat.blt 0 sh.length) with
          | false => rw [hbq] at h; cases h
          | true =>
            rw [hbq] at h
            simp only [cond_true, Option.some.injEq, Prod.mk.injEq] at h
            obtain ⟨rfl, rfl⟩ := h
            simp only [Bool.and_eq_true] at hbq
            obtain ⟨⟨q1, q2⟩, q3⟩ := hbq
            have q1 := Nat.eq_of_beq_eq_true q1
            have q2 := Nat.eq_of_beq_eq_true q2
            have q3 : 0 < sh.length := Nat.le_of_ble_eq_true q3
            simp only [decide_eq_true_eq] at hb
            obtain ⟨p1, p2, p3, p4⟩ := hb
            intro e a w hx hsat K Q hK
            have hx1 := hx x (by rw [ho]; simp [Op.operands])
            have hx2 := hx y (by rw [ho]; simp [Op.operands])
            obtain ⟨kn, hkn⟩ := intOfRV_spec hn e
            obtain ⟨kc, hkc⟩ := intOfRV_spec hc e
            rw [hkn] at hx1
            rw [hkc] at hx2
            have hrun := run_make (P := P) w t el i z hu hi hz kn kc n c p1 p2 p3 p4
            obtain ⟨g1, g2, d, g3⟩ := ctsOf_ok (e := e) (w := w) ⟨fun id o h => by simp [hlook] at h, fun id o h => by simp [hlook] at h⟩ hr
            refine wp_value (w' := w.alloc (.cells (madeCells z.cells (c.toNat * i.size)) el)) (v := .slice (some ⟨w.heap.size, 0, none⟩) n.toNat c.toNat) ?_ ?_
            · simp only [execOp, ho, hx1, hx2, Sem.run_bind, hrun, Result.andThen_ok, Sem.run_pure]
            · have hsame : ∀ id, id < nx ∨ nx + 1 ≤ id → e.same (e.setS nx (some ⟨w.heap.size, 0, none⟩, n.toNat, c.toNat) fun _ => False) id := fun id hid => Env.setS_same (by omega)
              have := hK (e.setS nx (some ⟨w.heap.size, 0, none⟩, n.toNat, c.toNat) fun _ => False) (w.alloc (.cells (madeCells z.cells (c.toNat * i.size)) el)) ⟨hsame, rfl, rfl, rfl, by simp, fun k hk _ => Below.heap_alloc _ _ _ hk, ⟨fun id o ho => ?_, fun id o ho id' o' ho' hne => absurd ((hlook_one ho).1.trans (hlook_one ho').1.symm) hne⟩, fun id o b ho hf => ?_, fun id o b ho hf => ?_⟩
              · simpa [RV.den, SV.den, CV.den, Env.setS_slv] using this
              · obtain ⟨rfl, rfl⟩ := hlook_one ho
                refine ⟨⟨d, (madeCells z.cells (c.toNat * i.size)).toList.take (n.toNat * sh.length), ?_, fun i' hi' j s hs => ?_⟩, fun b hb => by rw [Env.setS_φ] at hb; exact False.elim hb⟩
                · rw [Env.setS_slv, List.length_replicate]
                  have hsz : (madeCells z.cells (c.toNat * i.size)).size = c.toNat * sh.length := by rw [size_madeCells, q1]
                  have hle : n.toNat * sh.length ≤ c.toNat * sh.length := Nat.mul_le_mul_right _ (by omega)
                  refine ⟨?_, .inr ⟨w.heap.size, c.toNat, _, rfl, Nat.zero_le _, heap_alloc_new w _, by omega, by simp only [maxLen]; omega, hsz, rfl⟩⟩
                  have hl' : (madeCells z.cells (c.toNat * i.size)).toList.length = c.toNat * sh.length := by rw [Array.length_toList, hsz]
                  simp only [List.length_take, hl']
                  exact Nat.min_eq_left hle
                · rw [List.length_replicate] at hi'
                  have hj : j < sh.length := by
                    rcases Nat.lt_or_ge j sh.length with h | h
                    · exact h
                    · rw [List.getElem?_eq_none h] at hs; cases hs
                  have h1 : (i' + 1) * sh.length ≤ n.toNat * sh.length := Nat.mul_le_mul_right _ hi'
                  have h2 : n.toNat * sh.length ≤ c.toNat * sh.length := Nat.mul_le_mul_right _ (by omega)
                  rw [Nat.succ_mul] at h1
                  obtain ⟨cv, hcv, hh⟩ := g3 j s hs
                  refine ⟨cv.den e, ?_, ?_⟩
                  · rw [List.getElem?_take, if_pos (by omega), Array.getElem?_toList]
                    have hzj : z.cells[j]? = some (cv.den e) := by
                      rw [List.getElem?_map, Option.map_eq_some_iff] at hcv
                      obtain ⟨v, hv, rfl⟩ := hcv
                      rw [← Array.getElem?_toList, hv]; rfl
                    unfold madeCells
                    rw [Array.getElem?_map, Array.getElem?_range]
                    rw [if_pos (by rw [q1]; omega)]
                    simp only [Option.map_some, Option.some.injEq]
                    rw [q2, Nat.mul_comm i', Nat.mul_add_mod, Nat.mod_eq_of_lt hj]
                    rw [getElem!_pos z.cells j (by omega)]
                    rw [Array.getElem?_eq_getElem (by omega)] at hzj
                    simpa using hzj
                  · rw [rd_replicate hi', Env.setS_φ]
                    exact hh.mono fun b hb => by
                      obtain ⟨id, _, o, ho, _⟩ := hb
                      simp [hlook] at ho
              · obtain ⟨rfl, rfl⟩ := hlook_one ho
                have hf' : ((e.setS id (some ⟨w.heap.size, 0, none⟩, n.toNat, c.toNat) fun _ => False).slv id).ownBlock = some b := hf
                rw [Env.setS_slv] at hf'
                cases hf'
                exact .inl (Nat.le_refl _)
              · obtain ⟨rfl, rfl⟩ := hlook_one ho
                rcases hf with hf | hf
                · rw [Env.setS_slv] at hf
                  cases hf
                  exact .inl (Nat.le_refl _)
                · rw [Env.setS_φ] at hf; exact False.elim hf
        · cases h
      · cases h
    · cases h
  · cases h
/-- A part of a slice of one's own, by known numbers. -/
def knownI (get : Operand → RV) (n : Int) : Option Operand → Option Int
  | none => some n
  | some x => (match get x with
    | .sv (.one (.val true (.int _ k))) => some k
    | _ => none)
def opSliceL (P : Program) (get : Operand → RV) (nx : Nat) (t : TypeId) (x : Operand) (lo hi mx : Option Operand) : Option Out :=
  match mx, get x, P.underlying t with
  | none, .sv (.one (.sl id off len cap)), some (.slice e) => (match knownI get 0 lo, knownI get len hi, sizeP P e with
    | some a, some b, some s => bif decide (0 ≤ a ∧ a ≤ b ∧ b ≤ cap ∧ a < cap) then some (.val nx (.sv (.one (.sl id (off + a.toNat * s) (b.toNat - a.toNat) (cap - a.toNat))))) else none
    | _, _, _ => none)
  | _, _, _ => none
theorem knownI_lo {get : Operand → RV} {lo : Option Operand} {a : Int} (h : knownI get 0 lo = some a) : loOf get lo = some a := by
  cases lo with
  | none => exact h
  | some x =>
    simp only [knownI] at h
    split at h
    · rename_i k n hg
      cases h
      simp only [loOf, intOfRV, hg]
    · cases h
theorem knownI_hi {get : Operand → RV} {hi : Option Operand} {a : Int} {n : Nat} (h : knownI get n hi = some a) : hiOf get n hi = some a := by
  cases hi with
  | none => exact h
  | some x =>
    simp only [knownI] at h
    split at h
    · rename_i k n hg
      cases h
      simp only [hiOf, intOfRV, hg]
    · cases h
theorem opSliceL_ok {P : Program} {o : Oper} {get : Operand → RV} {hp : Hp} {nx : Nat} {out : Out} {t : TypeId} {x : Operand} {lo hi mx : Option Operand} (ho : o.op = .slice t x lo hi mx) (h : opSliceL P get nx t x lo hi mx = some out) : OpOk P o get hp nx out := by
  have hmem : ∀ y, lo = some y ∨ hi = some y → y ∈ o.op.operands := by
    intro y hy
    rw [ho]
    rcases hy with rfl | rfl <;> simp [Op.operands]
  have hmx : x ∈ o.op.operands := by rw [ho]; simp [Op.operands]
  unfold opSliceL at h
  split at h
  · rename_i id off len cap el hg hu
    split at h
    · rename_i a b s h1 h2 hs
      cases hq : decide (0 ≤ a ∧ a ≤ b ∧ b ≤ (cap : Int) ∧ a < (cap : Int)) with
      | false => rw [hq] at h; cases h
      | true =>
        rw [hq] at h
        cases h
        simp only [decide_eq_true_eq] at hq
        obtain ⟨q1, q2, q3, q4⟩ := hq
        refine OpOk.val fun e ac w hx hsat => ?_
        have hx1 := hx x hmx
        rw [hg] at hx1
        have hx1' : ac.eval x = .slice (some ⟨e.ρ id, off, none⟩) len cap := hx1
        have hbd := bounds_run (P := P) (b := true) (n := len) (cap := cap) (knownI_lo h1) (knownI_hi h2) (fun y hy => hx y (hmem y hy)) q1 q2 q3 w
        have hne : ¬ cap = a.toNat := by omega
        simp only [execOp, ho, hx1', Option.map_none, Instr.sliceAt, Instr.slice, Sem.run_bind, run_underlying hu, Result.andThen_ok, hbd, sizeP_run hs, Sem.run_pure, if_neg hne, Option.map_some, addr_add]
        rfl
    · cases h
  · cases h
end Go.Proofs.Ytonlllijdbjkaaa

/- A symbolic way through the code of a call: bytes and texts. No condition. -/
set_option linter.unusedVariables false
namespace Go.Proofs.Ytonlllijdbjkaaa
open Go.RowKit

/-- The text of some bytes, the bytes of a text. -/
def strOf (l : List (List Ct)) : ByteArray := (l.map fun r => (r.getD 0 (.i 0)).int).foldl (fun r n => r.push (UInt8.ofNat n.toNat)) ByteArray.empty
def bytesOf (s : ByteArray) : List (List Ct) := s.data.toList.map fun b => [.i b.toNat]
def u8Rows : List CV → Option (List (List Ct))
  | [] => some []
  | .val _ (.int .u8 n) :: r => (match u8Rows r with | some l => some ([.i n] :: l) | none => none)
  | _ => none
theorem u8Rows_at : ∀ {cs : List CV} {l : List (List Ct)}, u8Rows cs = some l → l.length = cs.length ∧ ∀ i, i < l.length → ∃ k n, cs[i]? = some (.val k (.int .u8 n)) ∧ rd l i 0 = .i n := by
  intro cs
  induction cs with
  | nil => intro l h; simp only [u8Rows, Option.some.injEq] at h; subst h; exact ⟨rfl, fun i hi => absurd hi (by simp)⟩
  | cons c cs ih =>
    intro l h
    unfold u8Rows at h
    split at h
    · rename_i e; cases e
    · rename_i k n r e
      cases e
      cases hr : u8Rows cs with
      | none => rw [hr] at h; cases h
      | some l' =>
        rw [hr] at h
        cases h
        obtain ⟨h1, h2⟩ := ih hr
        refine ⟨by simp [h1], fun i hi => ?_⟩
        cases i with
        | zero => exact ⟨k, n, rfl, rfl⟩
        | succ i => obtain ⟨k', n', h3, h4⟩ := h2 i (by simpa using hi); exact ⟨k', n', by simpa using h3, h4⟩
    · cases h
def opConv (P : Program) (get : Operand → RV) (hp : Hp) (nx : Nat) (src dst : TypeId) (x : Operand) : Option (Bool × Out) :=
  match P.underlying src, P.underlying dst with
  | some (.slice e), some .string => (match P.underlying e, srcOf hp [.int .u8] (get x) with
    | some (.int .u8), some (_, _, l) => some (true, ⟨.sv (.one (.val false (.string (strOf l)))), [], nx, []⟩)
    | _, _ => none)
  | some .string, some (.slice e) => (match P.underlying e, get x with
    | some (.int .u8), .sv (.one (.val _ (.string s))) => some (decide (s.size ≤ 9223372036854775807), ⟨.sv (.one (.ext nx)), [(nx, .grid [.int .u8] (bytesOf s))], nx + 1, []⟩)
    | _, _ => none)
  | some (.slice e), some (.slice _) => bif Nat.beq src dst then (match P.underlying e, get x with
    | some (.int .u8), .sv (.one (.ext id)) => (match hlook hp id with
      | some (.row sh _ l) => bif shEqL sh [.int .u8] && Nat.blt id nx then some (decide (0 < l.length), ⟨.sv (.one (.ext nx)), [(nx, .grid [.int .u8] l), (id, .gone)], nx + 1, [id]⟩) else none
      | _ => none)
    | some (.int .u8), .sv (.one (.sl id off len cap)) => (match hlook hp id with
      | some (.cells cs _) => (match u8Rows ((cs.drop off).take len) with
        | some l => bif Nat.beq l.length len && Nat.ble len cap && Nat.ble cap 9223372036854775807 && Nat.blt id nx then some (true, ⟨.sv (.one (.ext nx)), [(nx, .grid [.int .u8] l), (id, .tie false nx cap)], nx + 1, [id]⟩) else none
        | none => none)
      | _ => none)
    | _, _ => none) else none
  | _, _ => none
theorem freeze_heap_other (w : World) (g n k : Nat) (h : k ≠ g) : (w.freeze ⟨g, n, none⟩ 1).heap[k]? = w.heap[k]? := by
  unfold World.freeze
  rw [if_neg (by decide)]
  simp only [Array.getElem?_modify]
  rw [if_neg fun h' => h h'.symm]
theorem freeze_cell (w : World) (g n : Nat) (a : Addr) : (w.freeze ⟨g, n, none⟩ 1).cell? a = w.cell? a := by
  by_cases h : a.block = g
  · unfold World.freeze
    rw [if_neg (by decide)]
    unfold World.cell?
    simp only [Array.getElem?_modify, h, if_true]
    cases w.heap[g]? with
    | none => rfl
    | some o => cases o <;> rfl
  · exact cell_of_heap (freeze_heap_other w g n a.block h)
theorem freeze_size (w : World) (g n : Nat) : (w.freeze ⟨g, n, none⟩ 1).heap.size = w.heap.size := by
  unfold World.freeze
  rw [if_neg (by decide)]
  simp
/-- A slice of bytes of one's own, taken for a text's: read alone from here on. -/
theorem convSelf_ok {P : Program} {o : Oper} {get : Operand → RV} {hp : Hp} {nx id : Nat} {src dst e0 : TypeId} {x : Operand} {t : TypeId} {l : List (List Ct)} (ho : o.op = .convert src dst x) (hsd : src = dst) (hs : P.underlying src = some (.slice e0)) (he : P.underlying e0 = some (.int .u8))
    (hg : get x = .sv (.one (.ext id))) (hl : hlook hp id = some (.row [.int .u8] t l)) (hlt : id < nx) (hb : 0 < l.length) : OpOk P o get hp nx ⟨.sv (.one (.ext nx)), [(nx, .grid [.int .u8] l), (id, .gone)], nx + 1, [id]⟩ := by
  subst hsd
  intro e a w hx hsat K Q hK
  have hx1 := hx x (by rw [ho]; simp [Op.operands])
  rw [hg] at hx1
  obtain ⟨⟨d, xs, hown, hc⟩, hφ⟩ := hsat.holds _ _ hl
  rcases hown.2 with ⟨hv, h0⟩ | ⟨g, cap, cur, hv, _, hgh, hnc, hcm, hcs, htake⟩
  · omega
  · have hx1' : a.eval x = .slice (some ⟨g, 0, none⟩) l.length cap := by rw [hx1]; exact hv
    have hblk : (e.slv id).ownBlock = some g := by rw [hv]; rfl
    have hglt := heap_some_lt hgh
    have hshape : w.shape? g = some (t, cur.size) := by unfold World.shape?; rw [hgh]
    refine wp_value (w' := w.freeze ⟨g, cur.size, none⟩ 1) (v := .slice (some ⟨g, 0, none⟩) l.length cap) ?_ ?_
    · simp [execOp, ho, hx1', convert, run_underlying hs, run_underlying he, markStringish, hshape]
    · have := hK (e.setS nx (some ⟨g, 0, none⟩, l.length, cap) fun b => b = g ∨ e.φ id b) (w.freeze ⟨g, cur.size, none⟩ 1) ⟨fun i hi => Env.setS_same (by simp only at hi; omega), rfl, rfl, rfl, by rw [freeze_size]; exact Nat.le_refl _, fun k hk hne => freeze_heap_other w g _ k fun h' => hne id (by simp) _ hl (by subst h'; exact hblk), ⟨fun id' o' ho' => ?_, fun id1 o1 ho1 id2 o2 ho2 hne b hbo => ?_⟩, fun id' o' b ho' hbo => ?_, fun id' o' b ho' hf => ?_⟩
      · simpa [RV.den, SV.den, CV.den, Env.setS_slv] using this
      · simp only [hlook] at ho'
        cases h1 : Nat.beq nx id' with
        | true =>
          rw [h1] at ho'
          cases ho'
          obtain rfl := Nat.eq_of_beq_eq_true h1
          refine ⟨⟨0, some ⟨g, 0, none⟩, cap, by rw [Env.setS_slv], hnc, by unfold maxLen at hcm; omega, fun h => (by cases h), fun i hi => ⟨g, 0, rfl, by rw [Env.setS_φ]; exact .inl rfl, fun j s hs' => ?_⟩⟩, fun b hb' => ?_⟩
          · obtain ⟨u, hu, hh⟩ := hc i hi j s hs'
            cases j with
            | zero =>
              simp only [List.getElem?_cons_zero, Option.some.injEq] at hs'
              subst hs'
              refine ⟨u, ?_, by cases d <;> exact hh⟩
              rw [freeze_cell]
              rw [← htake, List.getElem?_take] at hu
              split at hu
              · simp only [World.cell?, hgh]
                simpa using hu
              · cases hu
            | succ j => simp at hs'
          · rw [Env.setS_φ] at hb'
            rw [freeze_size]
            rcases hb' with rfl | hb'
            · exact hglt
            · exact (hφ b hb').1
        | false =>
          rw [h1] at ho'
          obtain ⟨_, rfl⟩ := hlook_one ho'
          trivial
      · simp only [hlook] at ho1
        cases h1 : Nat.beq nx id1 with
        | true => rw [h1] at ho1; cases ho1; exact False.elim hbo
        | false => rw [h1] at ho1; obtain ⟨_, rfl⟩ := hlook_one ho1; exact False.elim hbo
      · simp only [hlook] at ho'
        cases h1 : Nat.beq nx id' with
        | true => rw [h1] at ho'; cases ho'; exact False.elim hbo
        | false => rw [h1] at ho'; obtain ⟨_, rfl⟩ := hlook_one ho'; exact False.elim hbo
      · simp only [hlook] at ho'
        cases h1 : Nat.beq nx id' with
        | true =>
          rw [h1] at ho'
          cases ho'
          obtain rfl := Nat.eq_of_beq_eq_true h1
          have hf' : (e.setS nx (some ⟨g, 0, none⟩, l.length, cap) fun b => b = g ∨ e.φ id b).φ nx b := hf
          rw [Env.setS_φ] at hf'
          rcases hf' with rfl | hf'
          · exact .inr (.inl ⟨id, by simp, _, hl, hblk⟩)
          · exact .inr (.inr ⟨id, _, hl, .inr hf', (hφ b hf').2⟩)
        | false => rw [h1] at ho'; obtain ⟨_, rfl⟩ := hlook_one ho'; exact False.elim hf
theorem bytesOf_length (s : ByteArray) : (bytesOf s).length = s.size := by
  show (s.data.toList.map _).length = s.data.size
  rw [List.length_map, Array.length_toList]
theorem data_length (s : ByteArray) : s.data.toList.length = s.size := by
  rw [Array.length_toList]; rfl
theorem convSl_ok {P : Program} {o : Oper} {get : Operand → RV} {hp : Hp} {nx id off len cap : Nat} {src dst e0 : TypeId} {x : Operand} {t : TypeId} {cs : List CV} {l : List (List Ct)} (ho : o.op = .convert src dst x) (hsd : src = dst) (hs : P.underlying src = some (.slice e0)) (he : P.underlying e0 = some (.int .u8))
    (hg : get x = .sv (.one (.sl id off len cap))) (hl : hlook hp id = some (.cells cs t)) (hr : u8Rows ((cs.drop off).take len) = some l) (hlen : l.length = len) (hlc : len ≤ cap) (hcm : cap ≤ 9223372036854775807) (hlt : id < nx) : OpOk P o get hp nx ⟨.sv (.one (.ext nx)), [(nx, .grid [.int .u8] l), (id, .tie false nx cap)], nx + 1, [id]⟩ := by
  subst hsd
  intro e a w hx hsat K Q hK
  have hx1 := hx x (by rw [ho]; simp [Op.operands])
  rw [hg] at hx1
  have hgh : w.heap[e.ρ id]? = some (.cells (cs.map (CV.den e)).toArray t (0, 0)) := hsat.holds _ _ hl
  have hx1' : a.eval x = .slice (some ⟨e.ρ id, off, none⟩) len cap := by rw [hx1]; rfl
  have hglt := heap_some_lt hgh
  obtain ⟨hll, hat⟩ := u8Rows_at hr
  have hshape : w.shape? (e.ρ id) = some (t, (cs.map (CV.den e)).toArray.size) := by unfold World.shape?; rw [hgh]
  refine wp_value (w' := w.freeze ⟨e.ρ id, (cs.map (CV.den e)).toArray.size, none⟩ 1) (v := .slice (some ⟨e.ρ id, off, none⟩) len cap) ?_ ?_
  · simp [execOp, ho, hx1', convert, run_underlying hs, run_underlying he, markStringish, hshape]
  · have := hK (e.setS nx (some ⟨e.ρ id, off, none⟩, len, cap) fun b => b = e.ρ id) (w.freeze ⟨e.ρ id, (cs.map (CV.den e)).toArray.size, none⟩ 1) ⟨fun i hi => Env.setS_same (by simp only at hi; omega), rfl, rfl, rfl, by rw [freeze_size]; exact Nat.le_refl _, fun k hk hne => freeze_heap_other w _ _ k fun h' => hne id (by simp) _ hl h', ⟨fun id' o' ho' => ?_, fun id1 o1 ho1 id2 o2 ho2 hne b hbo => ?_⟩, fun id' o' b ho' hbo => ?_, fun id' o' b ho' hf => ?_⟩
    · simpa [RV.den, SV.den, CV.den, Env.setS_slv] using this
    · simp only [hlook] at ho'
      cases h1 : Nat.beq nx id' with
      | true =>
        rw [h1] at ho'
        cases ho'
        obtain rfl := Nat.eq_of_beq_eq_true h1
        refine ⟨⟨0, some ⟨e.ρ id, off, none⟩, cap, by rw [Env.setS_slv, hlen], by omega, hcm, fun h => (by cases h), fun i hi => ⟨e.ρ id, off, rfl, by rw [Env.setS_φ], fun j s hs' => ?_⟩⟩, fun b hb' => ?_⟩
        · cases j with
          | zero =>
            simp only [List.getElem?_cons_zero, Option.some.injEq] at hs'
            subst hs'
            obtain ⟨k, n, h3, h4⟩ := hat i hi
            refine ⟨.int .u8 n, ?_, by rw [h4]; rfl⟩
            rw [freeze_cell]
            rw [List.getElem?_take] at h3
            split at h3
            · rw [List.getElem?_drop] at h3
              refine blk_cell' hgh ?_
              simp [h3, CV.den]
            · cases h3
          | succ j => simp at hs'
        · rw [Env.setS_φ] at hb'
          rw [freeze_size, hb']
          exact hglt
      | false =>
        rw [h1] at ho'
        obtain ⟨_, rfl⟩ := hlook_one ho'
        exact ⟨fun h => (by cases h), fun _ => by rw [Env.setS_σ]⟩
    · simp only [hlook] at ho1
      cases h1 : Nat.beq nx id1 with
      | true => rw [h1] at ho1; cases ho1; exact False.elim hbo
      | false => rw [h1] at ho1; obtain ⟨_, rfl⟩ := hlook_one ho1; exact False.elim hbo
    · simp only [hlook] at ho'
      cases h1 : Nat.beq nx id' with
      | true => rw [h1] at ho'; cases ho'; exact False.elim hbo
      | false => rw [h1] at ho'; obtain ⟨_, rfl⟩ := hlook_one ho'; exact False.elim hbo
    · simp only [hlook] at ho'
      cases h1 : Nat.beq nx id' with
      | true =>
        rw [h1] at ho'
        cases ho'
        obtain rfl := Nat.eq_of_beq_eq_true h1
        have hf' : (e.setS nx (some ⟨e.ρ id, off, none⟩, len, cap) fun b => b = e.ρ id).φ nx b := hf
        rw [Env.setS_φ] at hf'
        exact .inr (.inl ⟨id, by simp, _, hl, hf'⟩)
      | false => rw [h1] at ho'; obtain ⟨_, rfl⟩ := hlook_one ho'; exact False.elim hf
theorem opConv_ok {P : Program} {o : Oper} {get : Operand → RV} {hp : Hp} {nx : Nat} {out : Out} {src dst : TypeId} {x : Operand} {b : Bool} (ho : o.op = .convert src dst x) (h : opConv P get hp nx src dst x = some (b, out)) (hb : b = true) : OpOk P o get hp nx out := by
  have hmem : x ∈ o.op.operands := by rw [ho]; simp [Op.operands]
  unfold opConv at h
  split at h
  · rename_i el hs hd
    split at h
    · rename_i C Y l he hS
      simp only [Option.some.injEq, Prod.mk.injEq] at h
      obtain ⟨rfl, rfl⟩ := h
      intro e a w hx hsat K Q hK
      have hx1 := hx x hmem
      obtain ⟨φ2, ⟨⟨d, ad, c, news, hv, ha, hnl, hcell, hcont⟩⟩, _⟩ := srcOf_ok (T := []) (vx := .slice none 0 0) hS (by simp) hsat (fun id h => by cases h) (fun b h => by cases h)
      rw [hv] at hx1
      refine wp_value (w' := w) (v := .string (strOf l)) ?_ (hK e w (PostOp.none e _ nx _ _ w))
      have hnews : news = (l.map fun r => (r.getD 0 (.i 0)).int).map (Value.int .u8) := by
        apply List.ext_getElem?
        intro q
        by_cases hq : q < l.length
        · obtain ⟨u, hu, hh⟩ := hcont q hq 0 (.int .u8) rfl
          have : u = .int .u8 (rd l q 0).int := by cases d <;> exact hh
          rw [show q * [Sh.int .u8].length + 0 = q by simp] at hu
          rw [hu, this]
          simp [rd, List.getD_eq_getElem?_getD, hq]
        · rw [List.getElem?_eq_none (by rw [hnl]; simp; omega), List.getElem?_eq_none (by simp; omega)]
      cases ad with
      | none =>
        obtain ⟨hl, _⟩ := ha rfl
        have : l = [] := List.eq_nil_of_length_eq_zero hl
        subst this
        simp only [execOp, ho, hx1, run_convert_bytes_string w src dst el none _ _ hs he hd, Conv.bytesToString, Sem.run_bind, Sem.run_pure, Result.andThen_ok]
        rfl
      | some ad =>
        have hload := run_loadCells_list (P := P) w ad news (fun j u hj => hcell ad rfl j u hj)
        rw [hnl, show l.length * [Sh.int .u8].length = l.length by simp] at hload
        have := run_bytesToString (P := P) w ad l.length c (l.map fun r => (r.getD 0 (.i 0)).int) (by rw [hload, hnews])
        simp only [execOp, ho, hx1, Sem.run_bind, run_convert_bytes_string w src dst el (some ad) _ _ hs he hd, this, Result.andThen_ok, Sem.run_pure]
        rfl
    · cases h
  · rename_i el hs hd
    split at h
    · rename_i k s he hg
      simp only [Option.some.injEq, Prod.mk.injEq] at h
      obtain ⟨rfl, rfl⟩ := h
      simp only [decide_eq_true_eq] at hb
      intro e a w hx hsat K Q hK
      have hx1 := hx x hmem
      rw [hg] at hx1
      have hx1' : a.eval x = .string s := hx1
      have hrun := Go.Lib.run_convert_string_bytes (P := P) w src dst el s hs hd he
      refine wp_value (w' := Go.Lib.bytesWorld w el s) (v := .slice (some ⟨w.heap.size, 0, none⟩) s.size (grownCap w s.size 0 el)) ?_ ?_
      · simp only [execOp, ho, hx1', Sem.run_bind, hrun, Result.andThen_ok, Sem.run_pure]
      · have hcells : ∀ j, j < s.size → (Go.Lib.bytesWorld w el s).cell? ⟨w.heap.size, j, none⟩ = some (.int .u8 (s.data.toList.getD j 0).toNat) := fun j hj => Go.Lib.bytesWorld_cell w el s j hj
        have hle := grownCap_ge w s.size 0 el
        have := hK (e.setS nx (some ⟨w.heap.size, 0, none⟩, s.size, grownCap w s.size 0 el) fun b => b = w.heap.size) (Go.Lib.bytesWorld w el s) ⟨fun id hid => Env.setS_same (by simp only at hid; omega), rfl, rfl, rfl, by rw [Go.Lib.bytesWorld_size]; omega, fun k hk _ => Go.Lib.bytesWorld_at_old w el s k hk, ⟨fun id o ho => ?_, fun id o ho id' o' ho' hne => absurd ((hlook_one ho).1.trans (hlook_one ho').1.symm) hne⟩, fun id o b ho hf => ?_, fun id o b ho hf => ?_⟩
        · simpa [RV.den, SV.den, CV.den, Env.setS_slv] using this
        · obtain ⟨rfl, rfl⟩ := hlook_one ho
          refine ⟨⟨0, some ⟨w.heap.size, 0, none⟩, grownCap w s.size 0 el, by rw [Env.setS_slv, bytesOf_length], by rw [bytesOf_length]; exact hle, ?_, fun h => (by cases h), fun i hi => ⟨w.heap.size, 0, rfl, by rw [Env.setS_φ], fun j sh hsh => ?_⟩⟩, fun b hb => ?_⟩
          · have hs63 : s.size ≤ maxLen := by simp only [maxLen]; omega
            have := grownCap_le_maxLen w s.size 0 el hs63
            simp only [maxLen] at this; omega
          · rw [bytesOf_length] at hi
            cases j with
            | zero =>
              simp only [List.getElem?_cons_zero, Option.some.injEq] at hsh
              subst hsh
              refine ⟨_, by rw [show 0 + i * [Sh.int .u8].length + 0 = i by simp]; exact hcells i hi, ?_⟩
              have hi' : i < s.data.toList.length := by rw [data_length]; exact hi
              simp [CtHolds, rd, bytesOf, List.getD_eq_getElem?_getD, List.getElem?_eq_getElem hi', Ct.int]
            | succ j => simp at hsh
          · rw [Env.setS_φ] at hb
            subst hb
            rw [Go.Lib.bytesWorld_size]; omega
        · obtain ⟨rfl, rfl⟩ := hlook_one ho
          exact False.elim hf
        · obtain ⟨rfl, rfl⟩ := hlook_one ho
          have hf' : (e.setS id (some ⟨w.heap.size, 0, none⟩, s.size, grownCap w s.size 0 el) fun b => b = w.heap.size).φ id b := hf
          rw [Env.setS_φ] at hf'
          exact .inl (Nat.le_of_eq hf'.symm)
    · cases h
  · rename_i el el' hs hd
    cases hbq : Nat.beq src dst with
    | false => rw [hbq] at h; cases h
    | true =>
      rw [hbq] at h
      simp only [cond_true] at h
      split at h
      · rename_i id he hg
        split at h
        · rename_i sh ty l hl
          cases hq : (shEqL sh [.int .u8] && Nat.blt id nx) with
          | false => rw [hq] at h; cases h
          | true =>
            rw [hq] at h
            simp only [cond_true, Option.some.injEq, Prod.mk.injEq] at h
            obtain ⟨rfl, rfl⟩ := h
            rw [Bool.and_eq_true] at hq
            have hsh := shEqL_spec hq.1
            subst hsh
            exact convSelf_ok ho (Nat.eq_of_beq_eq_true hbq) hs he hg hl (Nat.le_of_ble_eq_true hq.2) (of_decide_eq_true hb)
        · cases h
      · rename_i id off len cap he hg
        split at h
        · rename_i cs ty hl
          split at h
          · rename_i l hr
            cases hq : (Nat.beq l.length len && Nat.ble len cap && Nat.ble cap 9223372036854775807 && Nat.blt id nx) with
            | false => rw [hq] at h; cases h
            | true =>
              rw [hq] at h
              simp only [cond_true, Option.some.injEq, Prod.mk.injEq] at h
              obtain ⟨rfl, rfl⟩ := h
              simp only [Bool.and_eq_true] at hq
              obtain ⟨⟨⟨q1, q2⟩, q3⟩, q4⟩ := hq
              exact convSl_ok ho (Nat.eq_of_beq_eq_true hbq) hs he hg hl hr (Nat.eq_of_beq_eq_true q1) (Nat.le_of_ble_eq_true q2) (Nat.le_of_ble_eq_true q3) (Nat.le_of_ble_eq_true q4)
          · cases h
        · cases h
      · cases h
  · cases h

/-- Texts: one behind another, a byte of one. -/
def opStr (P : Program) (o : Oper) (get : Operand → RV) (nx : Nat) : Option (Bool × Out) :=
  match o.op with
  | .binOp .add _ x y _ => (match get x, get y with
    | .sv (.one (.val k (.string a))), .sv (.one (.val k' (.string b))) => some (decide (a.size + b.size ≤ 9223372036854775807), ⟨.sv (.one (.val (k && k') (.string (a ++ b)))), [], nx + 1, []⟩)
    | _, _ => none)
  | .index t x i => (match get x, intOfRV (get i), P.underlying t with
    | .sv (.one (.val _ (.string s))), some j, some .string => some (decide (0 ≤ j ∧ j < s.size), ⟨.sv (.one (.val false (.int .u8 (s.data.toList.getD j.toNat 0).toNat))), [], nx + 1, []⟩)
    | _, _, _ => none)
  | _ => none
theorem opStr_ok {P : Program} {o : Oper} {get : Operand → RV} {hp : Hp} {nx : Nat} {out : Out} {b : Bool} (h : opStr P o get nx = some (b, out)) (hb : b = true) : OpOk P o get hp nx out := by
  unfold opStr at h
  split at h
  · rename_i t x y yt ho
    split at h
    · rename_i k sa k' sb h1 h2
      simp only [Option.some.injEq, Prod.mk.injEq] at h
      obtain ⟨rfl, rfl⟩ := h
      simp only [decide_eq_true_eq] at hb
      intro e a w hx hsat K Q hK
      have hx1 := hx x (by rw [ho]; simp [Op.operands])
      have hx2 := hx y (by rw [ho]; simp [Op.operands])
      rw [h1] at hx1
      rw [h2] at hx2
      have hx1' : a.eval x = .string sa := hx1
      have hx2' : a.eval y = .string sb := hx2
      refine wp_value (w' := w) (v := .string (sa ++ sb)) ?_ (hK e w (PostOp.none e _ nx _ _ w))
      simp only [execOp, ho, hx1', hx2', Sem.run_bind]
      simp [eqGuard, binOp, run_string_add_sum w sa sb hb]
    · cases h
  · rename_i t x i ho
    split at h
    · rename_i k s j h1 h2 h3
      simp only [Option.some.injEq, Prod.mk.injEq] at h
      obtain ⟨rfl, rfl⟩ := h
      simp only [decide_eq_true_eq] at hb
      intro e a w hx hsat K Q hK
      have hx1 := hx x (by rw [ho]; simp [Op.operands])
      have hx2 := hx i (by rw [ho]; simp [Op.operands])
      rw [h1] at hx1
      have hx1' : a.eval x = .string s := hx1
      obtain ⟨kj, hkj⟩ := intOfRV_spec h2 e
      rw [hkj] at hx2
      refine wp_value (w' := w) (v := .int .u8 (s.data.toList.getD j.toNat 0).toNat) ?_ (hK e w (PostOp.none e _ nx _ _ w))
      have hlt : j.toNat < s.size := by omega
      have hget : s[j.toNat]? = some (s.data.toList.getD j.toNat 0) := by
        rw [getElem?_pos s j.toNat hlt]
        simp only [Option.some.injEq]
        have hlt' : j.toNat < s.data.toList.length := by rw [data_length]; exact hlt
        rw [List.getD_eq_getElem?_getD, List.getElem?_eq_getElem hlt']
        simp
        rfl
      simp only [execOp, ho, hx1', hx2, Instr.index, asIntOf, Sem.run_bind, run_underlying h3, Result.andThen_ok, Sem.run_pure, hb.1, if_true, hget]
    · cases h
  · cases h
/-- A quotient, a rest, by an open divisor. -/
def opDiv (o : Oper) (get : Operand → RV) (nx : Nat) : Option (Bool × Out) :=
  match o.op with
  | .binOp .quo _ x y _ => (match get x, get y with
    | .sv (.one (.val _ (.int k a))), .sv (.one (.val false (.int k' b))) => if k = k' then some (decide (b ≠ 0), ⟨.sv (.one (.val false (.int k (k.wrap (a.tdiv b))))), [], nx + 1, []⟩) else none
    | _, _ => none)
  | .binOp .rem _ x y _ => (match get x, get y with
    | .sv (.one (.val _ (.int k a))), .sv (.one (.val false (.int k' b))) => if k = k' then some (decide (b ≠ 0), ⟨.sv (.one (.val false (.int k (a.tmod b)))), [], nx + 1, []⟩) else none
    | _, _ => none)
  | _ => none
theorem opDiv_ok {P : Program} {o : Oper} {get : Operand → RV} {hp : Hp} {nx : Nat} {out : Out} {b : Bool} (h : opDiv o get nx = some (b, out)) (hb : b = true) : OpOk P o get hp nx out := by
  unfold opDiv at h
  split at h
  · rename_i t x y yt ho
    split at h
    · rename_i kn k a k' d h1 h2
      split at h
      · rename_i hk
        subst hk
        simp only [Option.some.injEq, Prod.mk.injEq] at h
        obtain ⟨rfl, rfl⟩ := h
        simp only [decide_eq_true_eq] at hb
        intro e ac w hx hsat K Q hK
        have hx1 := hx x (by rw [ho]; simp [Op.operands])
        have hx2 := hx y (by rw [ho]; simp [Op.operands])
        rw [h1] at hx1
        rw [h2] at hx2
        have hx1' : ac.eval x = .int k a := hx1
        have hx2' : ac.eval y = .int k d := hx2
        refine wp_value (w' := w) (v := .int k (k.wrap (a.tdiv d))) ?_ (hK e w (PostOp.none e _ nx _ _ w))
        simp only [execOp, ho, hx1', hx2', Sem.run_bind]
        simp [eqGuard, binOp, Op.intDiv, hb]
      · cases h
    · cases h
  · rename_i t x y yt ho
    split at h
    · rename_i kn k a k' d h1 h2
      split at h
      · rename_i hk
        subst hk
        simp only [Option.some.injEq, Prod.mk.injEq] at h
        obtain ⟨rfl, rfl⟩ := h
        simp only [decide_eq_true_eq] at hb
        intro e ac w hx hsat K Q hK
        have hx1 := hx x (by rw [ho]; simp [Op.operands])
        have hx2 := hx y (by rw [ho]; simp [Op.operands])
        rw [h1] at hx1
        rw [h2] at hx2
        have hx1' : ac.eval x = .int k a := hx1
        have hx2' : ac.eval y = .int k d := hx2
        refine wp_value (w' := w) (v := .int k (a.tmod d)) ?_ (hK e w (PostOp.none e _ nx _ _ w))
        simp only [execOp, ho, hx1', hx2', Sem.run_bind]
        simp [eqGuard, binOp, Op.intDiv, hb]
      · cases h
    · cases h
  · cases h
theorem ptr_nil {P : Program} {t el : TypeId} (h0 : P.underlying t = some (.pointer el)) (a : Addr) (w : World) : (Op.equal t (.pointer (some a)) (.pointer none)).run P w = .ok false w := by
  show (Op.equalIn (9999 + 1) t (.pointer (some a)) (.pointer none)).run P w = _
  unfold Op.equalIn
  simp only [Sem.run_bind, run_underlying h0, Result.andThen_ok, Sem.run_pure]
/-- A pointer that leads somewhere, beside nil. -/
def opNil (P : Program) (get : Operand → RV) (nx : Nat) (op : BinOp) (t : TypeId) (x y : Operand) : Option Out :=
  match op, P.underlying t, get x, get y with
  | .eql, some (.pointer _), .sv (.one (.ptr _ _)), .sv (.one (.val _ (.pointer none))) => some (boolOut true nx false)
  | .neq, some (.pointer _), .sv (.one (.ptr _ _)), .sv (.one (.val _ (.pointer none))) => some (boolOut true nx true)
  | _, _, _, _ => none
theorem opNil_ok {P : Program} {o : Oper} {get : Operand → RV} {hp : Hp} {nx : Nat} {out : Out} {op : BinOp} {t yt : TypeId} {x y : Operand} (ho : o.op = .binOp op t x y yt) (h : opNil P get nx op t x y = some out) : OpOk P o get hp nx out := by
  unfold opNil at h
  split at h
  · rename_i t' id off k h0 h1 h2
    cases h
    refine OpOk.val fun e a w hx hs => ?_
    have hx1 := hx x (by rw [ho]; simp [Op.operands])
    have hx2 := hx y (by rw [ho]; simp [Op.operands])
    rw [h1] at hx1
    rw [h2] at hx2
    have hx1' : a.eval x = .pointer (some ⟨e.ρ id, off, none⟩) := hx1
    have hx2' : a.eval y = .pointer none := hx2
    simp only [execOp, ho, hx1', hx2', Sem.run_bind]
    have e1 : binOp .eql t (.pointer (some ⟨e.ρ id, off, none⟩)) (.pointer none) = (do pure (.bool (← Op.equal t (.pointer (some ⟨e.ρ id, off, none⟩)) (.pointer none)))) := rfl
    simp only [eqGuard, e1, Sem.run_bind, ptr_nil h0, Result.andThen_ok, Sem.run_pure]
    rfl
  · rename_i t' id off k h0 h1 h2
    cases h
    refine OpOk.val fun e a w hx hs => ?_
    have hx1 := hx x (by rw [ho]; simp [Op.operands])
    have hx2 := hx y (by rw [ho]; simp [Op.operands])
    rw [h1] at hx1
    rw [h2] at hx2
    have hx1' : a.eval x = .pointer (some ⟨e.ρ id, off, none⟩) := hx1
    have hx2' : a.eval y = .pointer none := hx2
    simp only [execOp, ho, hx1', hx2', Sem.run_bind]
    have e1 : binOp .neq t (.pointer (some ⟨e.ρ id, off, none⟩)) (.pointer none) = (do pure (.bool (!(← Op.equal t (.pointer (some ⟨e.ρ id, off, none⟩)) (.pointer none))))) := rfl
    simp only [eqGuard, e1, Sem.run_bind, ptr_nil h0, Result.andThen_ok, Sem.run_pure]
    rfl
  · cases h
/-- A slice that is written out, as a row of its own. -/
def opBuildRow (P : Program) (get : Operand → RV) (nx : Nat) (t : TypeId) (len : Nat) (parts : Array (Nat × Operand)) : Option Out :=
  match opBuildSlice P get nx t len parts with
  | some ⟨.sv (.one (.sl i 0 n c)), [(i', .cells cs e)], nx', []⟩ => (match shT P 8 e with
    | some sh => (match tgtOf [(nx, .cells cs e)] sh e (.sv (.one (.sl nx 0 n c))) with
      | some (_, l) => bif Nat.beq i nx && Nat.beq i' nx && Nat.beq nx' (nx + 1) && cs.all (fun c => c.ids.isEmpty) then some ⟨.sv (.one (.ext nx)), [(nx, .row sh e l)], nx + 1, []⟩ else none
      | none => none)
    | none => none)
  | _ => none
theorem opBuildRow_ok {P : Program} {o : Oper} {get : Operand → RV} {hp : Hp} {nx : Nat} {out : Out} {t : TypeId} {len : Nat} {parts : Array (Nat × Operand)} (hwf : WfOp get o hp nx) (ho : o.op = .buildSlice t len parts) (h : opBuildRow P get nx t len parts = some out) : OpOk P o get hp nx out := by
  unfold opBuildRow at h
  split at h
  · rename_i i n c i' cs e nx' hb
    split at h
    · rename_i sh hsh
      split at h
      · rename_i T l htg
        cases hq : (Nat.beq i nx && Nat.beq i' nx && Nat.beq nx' (nx + 1) && cs.all (fun c => c.ids.isEmpty)) with
        | false => rw [hq] at h; cases h
        | true =>
          rw [hq] at h
          simp only [cond_true, Option.some.injEq] at h
          simp only [Bool.and_eq_true] at hq
          obtain ⟨⟨⟨q1, q2⟩, q3⟩, q4⟩ := hq
          obtain rfl := Nat.eq_of_beq_eq_true q1
          obtain rfl := Nat.eq_of_beq_eq_true q2
          obtain rfl := Nat.eq_of_beq_eq_true q3
          subst h
          have hop := opBuildSlice_ok hwf (fun cs' ty hl j hj => by
            simp only [hlook, Nat.beq_refl, cond_true, Option.some.injEq, HO.cells.injEq] at hl
            obtain ⟨rfl, rfl⟩ := hl
            obtain ⟨c', hc', hj'⟩ := List.mem_flatMap.1 hj
            have := List.all_eq_true.1 q4 c' hc'
            simp only [List.isEmpty_iff] at this
            rw [this] at hj'; cases hj') ho hb
          intro en a w hx hsat K Q hK
          refine hop en a w hx hsat K Q fun e1 w' hp1 => ?_
          have hs1 : Sat e1 (hlook [(i', .cells cs e)]) w' := hp1.sat
          obtain ⟨φ1, h1, h2, h3⟩ := tgtOf_ok htg hs1 []
          obtain ⟨⟨d, xs, hown, hc⟩, _, a', m', c', hv⟩ := h1
          have hone : ∀ id o', hlook [(i', HO.cells cs e)] id = some o' → id = i' ∧ o' = .cells cs e := fun id o' hh => hlook_one hh
          have hv' : (RV.sv (.one (.sl i' 0 n c))).den e1 = .slice (some ⟨e1.ρ i', 0, none⟩) n c := rfl
          have hno : ∀ b, ¬ φ1 b := by
            intro b hb'
            obtain ⟨_, g1, g2⟩ := h2 b hb'
            rcases g2 with ⟨id0, _, o0, g3, g4⟩ | ⟨id0, o0, g3, g4, g5⟩
            · obtain ⟨rfl, rfl⟩ := hone _ _ g3
              exact g1 (by rw [hv']; exact congrArg some (show b = _ from g4).symm)
            · obtain ⟨rfl, rfl⟩ := hone _ _ g3
              exact g5 g4
          have := hK (e1.setS i' (some ⟨e1.ρ i', 0, none⟩, n, c) fun _ => False) w' ⟨fun id hid => ?_, hp1.os, hp1.tape, hp1.output, hp1.size, fun k hk hne => hp1.fr k hk (fun id hid => by cases hid), ⟨fun id o' ho' => ?_, fun id o' ho' id' o'' ho'' hne => ?_⟩, fun id o' b ho' hb' => ?_, fun id o' b ho' hb' => ?_⟩
          · have h5 : (RV.sv (.one (.ext i'))).den (e1.setS i' (some ⟨e1.ρ i', 0, none⟩, n, c) fun _ => False) = (RV.sv (.one (.sl i' 0 n c))).den e1 := by
              simp only [RV.den, SV.den, CV.den, Env.setS_slv]
            rw [h5] at this
            exact this
          · exact (hp1.agree id hid).trans (Env.setS_same (by simp only at hid; omega))
          · obtain ⟨rfl, rfl⟩ := hlook_one ho'
            refine ⟨⟨d, xs, ?_, fun q hq j s hs => ?_⟩, fun b hb' => ?_⟩
            · rw [Env.setS_slv, ← hv']; exact hown
            · obtain ⟨u, hu, hh⟩ := hc q hq j s hs
              exact ⟨u, hu, hh.mono fun b hb' => absurd hb' (hno b)⟩
            · rw [Env.setS_φ] at hb'; exact False.elim hb'
          · exact absurd ((hlook_one ho').1.trans (hlook_one ho'').1.symm) hne
          · obtain ⟨rfl, rfl⟩ := hlook_one ho'
            have hb'' : (Env.slv (e1.setS id (some ⟨e1.ρ id, 0, none⟩, n, c) fun _ => False) id).ownBlock = some b := hb'
            rw [Env.setS_slv] at hb''
            have e5 : b = e1.ρ id := by simpa [Value.ownBlock] using hb''.symm
            rcases hp1.own id (.cells cs e) b (by simp [hlook, Nat.beq_refl]) e5 with g | ⟨id0, g, _⟩
            · exact .inl g
            · cases g
          · obtain ⟨rfl, rfl⟩ := hlook_one ho'
            rcases hb' with hb' | hb'
            · rw [Env.setS_slv] at hb'
              have e5 : b = e1.ρ id := by simpa [Value.ownBlock] using hb'.symm
              rcases hp1.own id (.cells cs e) b (by simp [hlook, Nat.beq_refl]) e5 with g | ⟨id0, g, _⟩
              · exact .inl g
              · cases g
            · rw [Env.setS_φ] at hb'; exact False.elim hb'
      · cases h
    · cases h
  · cases h
/-- Nothing, copied into a slice of one's own. -/
def opCopyN (P : Program) (get : Operand → RV) (nx : Nat) (t : TypeId) (x y : Operand) : Option Out :=
  match get x, get y, P.underlying t with
  | .sv (.one (.sl id off len cap)), .sv (.one (.val _ (.slice none 0 0))), some (.slice e) => (match sizeP P e with
    | some _ => some (.val nx (.sv (.one (.val true (.int .i64 0)))))
    | none => none)
  | _, _, _ => none
theorem opCopyN_ok {P : Program} {o : Oper} {get : Operand → RV} {hp : Hp} {nx : Nat} {out : Out} {t t' : TypeId} {x y : Operand} {c : Call} (ho : o.op = .call c) (hc : c.callee = .builtin .copy) (ha : c.args.toList = [x, y]) (hat : c.argTypes.toList = [t, t'])
    (h : opCopyN P get nx t x y = some out) : OpOk P o get hp nx out := by
  have ha' : c.args = #[x, y] := by apply Array.ext'; simpa using ha
  have hat' : c.argTypes = #[t, t'] := by apply Array.ext'; simpa using hat
  have hop : o.op.operands = #[x, y] := by rw [ho]; simp [Op.operands, Call.operands, hc, ha']
  unfold opCopyN at h
  split at h
  · rename_i id off len cap k e hgx hgy hu
    split at h
    · rename_i s hs
      cases h
      refine OpOk.val fun en a w hx hsat => ?_
      have hx1 := hx x (by rw [hop]; simp)
      have hx2 := hx y (by rw [hop]; simp)
      rw [hgx] at hx1
      rw [hgy] at hx2
      have hx1' : a.eval x = .slice (some ⟨en.ρ id, off, none⟩) len cap := hx1
      have hx2' : a.eval y = .slice none 0 0 := hx2
      have hrun := run_copy_nil (P := P) w t t' o.type e ⟨en.ρ id, off, none⟩ len cap hu (by unfold sizeP at hs; rw [hs]; rfl)
      simp only [execOp, ho, resolve, hc, ha', hat', List.map_toArray, List.map_cons, List.map_nil, hx1', hx2', Sem.run_bind, Sem.run_pure, Result.andThen_ok, invoke, builtin, hrun]
      rfl
    · cases h
  · cases h
end Go.Proofs.Ytonlllijdbjkaaa

/- A symbolic way through the code of a call: shifts by an open count, what is copied into a block of one's own. No condition. -/
set_option linter.unusedVariables false
namespace Go.Proofs.Ytonlllijdbjkaaa
open Go.RowKit

/-- A shift by a count that isn't known. -/
def opShift (o : Oper) (get : Operand → RV) (nx : Nat) : Option (Bool × Out) :=
  match o.op with
  | .binOp .shl _ x y _ => (match get x, get y with
    | .sv (.one (.val _ (.int k a))), .sv (.one (.val false (.int _ b))) => some (decide (0 ≤ b), ⟨.sv (.one (.val false (.int k (k.wrap (a * 2 ^ (min b.toNat k.bits)))))), [], nx + 1, []⟩)
    | _, _ => none)
  | .binOp .shr _ x y _ => (match get x, get y with
    | .sv (.one (.val _ (.int k a))), .sv (.one (.val false (.int _ b))) => some (decide (0 ≤ b), ⟨.sv (.one (.val false (.int k (a.fdiv (2 ^ (min b.toNat k.bits)))))), [], nx + 1, []⟩)
    | _, _ => none)
  | _ => none
theorem opShift_ok {P : Program} {o : Oper} {get : Operand → RV} {hp : Hp} {nx : Nat} {out : Out} {b : Bool} (h : opShift o get nx = some (b, out)) (hb : b = true) : OpOk P o get hp nx out := by
  unfold opShift at h
  split at h
  · rename_i t x y yt ho
    split at h
    · rename_i kn k a k' d h1 h2
      simp only [Option.some.injEq, Prod.mk.injEq] at h
      obtain ⟨rfl, rfl⟩ := h
      simp only [decide_eq_true_eq] at hb
      intro e ac w hx hsat K Q hK
      have hx1 := hx x (by rw [ho]; simp [Op.operands])
      have hx2 := hx y (by rw [ho]; simp [Op.operands])
      rw [h1] at hx1
      rw [h2] at hx2
      have hx1' : ac.eval x = .int k a := hx1
      have hx2' : ac.eval y = .int k' d := hx2
      have hn : ¬ d < 0 := by omega
      refine wp_value (w' := w) (v := .int k (k.wrap (a * 2 ^ (min d.toNat k.bits)))) ?_ (hK e w (PostOp.none e _ nx _ _ w))
      simp only [execOp, ho, hx1', hx2', Sem.run_bind]
      simp [eqGuard, binOp, Op.shift, hn]
    · cases h
  · rename_i t x y yt ho
    split at h
    · rename_i kn k a k' d h1 h2
      simp only [Option.some.injEq, Prod.mk.injEq] at h
      obtain ⟨rfl, rfl⟩ := h
      simp only [decide_eq_true_eq] at hb
      intro e ac w hx hsat K Q hK
      have hx1 := hx x (by rw [ho]; simp [Op.operands])
      have hx2 := hx y (by rw [ho]; simp [Op.operands])
      rw [h1] at hx1
      rw [h2] at hx2
      have hx1' : ac.eval x = .int k a := hx1
      have hx2' : ac.eval y = .int k' d := hx2
      have hn : ¬ d < 0 := by omega
      refine wp_value (w' := w) (v := .int k (a.fdiv (2 ^ (min d.toNat k.bits)))) ?_ (hK e w (PostOp.none e _ nx _ _ w))
      simp only [execOp, ho, hx1', hx2', Sem.run_bind]
      simp [eqGuard, binOp, Op.shift, hn]
    · cases h
  · cases h

/-- Cells of numbers, with what is copied over them. -/
def copyCV (k : IntKind) (l : List (List Ct)) : List CV → Nat → Option (List CV)
  | [], _ => some []
  | .val _ (.int k' n) :: r, j => if k = k' then (match copyCV k l r (j + 1) with
    | some xs => some (.val false (.int k (bif Nat.blt j l.length then (rd l j 0).int else n)) :: xs)
    | none => none) else none
  | _, _ => none
theorem copyCV_spec {k : IntKind} {l : List (List Ct)} {e : Env} : ∀ {cs xs : List CV} {j : Nat}, copyCV k l cs j = some xs → xs.length = cs.length ∧
    ∀ i, i < cs.length → (xs.map (CV.den e))[i]? = if j + i < l.length then some (.int k (rd l (j + i) 0).int) else (cs.map (CV.den e))[i]? := by
  intro cs
  induction cs with
  | nil => intro xs j h; cases h; exact ⟨rfl, fun i hi => by simp at hi⟩
  | cons c r ih =>
    intro xs j h
    cases c with
    | val kn v =>
      cases v with
      | int k' n =>
        simp only [copyCV] at h
        split at h
        · rename_i hk
          subst hk
          split at h
          · rename_i ys hys
            cases h
            obtain ⟨h1, h2⟩ := ih hys
            refine ⟨by simp [h1], fun i hi => ?_⟩
            cases i with
            | zero =>
              simp only [List.map_cons, List.getElem?_cons_zero, Nat.add_zero, CV.den]
              by_cases hj : j < l.length
              · rw [if_pos hj, show Nat.blt j l.length = true from Nat.ble_eq_true_of_le hj]; rfl
              · rw [if_neg hj, show Nat.blt j l.length = false from by cases hq : Nat.blt j l.length with | false => rfl | true => exact absurd (Nat.le_of_ble_eq_true hq) hj]; rfl
            | succ i =>
              have := h2 i (by simp at hi; omega)
              simp only [List.map_cons, List.getElem?_cons_succ]
              rw [this, show j + 1 + i = j + (i + 1) by omega]
          · cases h
        · cases h
      | _ => simp [copyCV] at h
    | _ => simp [copyCV] at h
theorem lay_eq {A : Type} {cs news xs : List A} {off len : Nat} (hx : xs.length = len) (hb : off + len ≤ cs.length) (h : ∀ i, i < len → xs[i]? = if i < news.length then news[i]? else cs[off + i]?) :
    cs.take off ++ news.take len ++ cs.drop (off + (news.take len).length) = cs.take off ++ xs ++ cs.drop (off + len) := by
  rw [List.append_assoc, List.append_assoc]
  congr 1
  apply List.ext_getElem?
  intro i
  have hm : (news.take len).length = min len news.length := by simp
  by_cases h1 : i < len
  · rw [List.getElem?_append_left (l₁ := xs) (by omega), h i h1]
    by_cases h2 : i < news.length
    · rw [if_pos h2, List.getElem?_append_left (by omega), List.getElem?_take_of_lt h1]
    · rw [if_neg h2, List.getElem?_append_right (by omega), hm, List.getElem?_drop]
      congr 1; omega
  · rw [List.getElem?_append_right (l₁ := xs) (by omega), List.getElem?_append_right (by omega), hm, List.getElem?_drop, List.getElem?_drop, hx]
    by_cases h2 : len ≤ news.length
    · congr 1; omega
    · rw [Nat.min_eq_right (by omega)]
      congr 1; omega
def opCopy (P : Program) (get : Operand → RV) (hp : Hp) (nx : Nat) (t : TypeId) (x y : Operand) : Option Out :=
  match get x, P.underlying t with
  | .sv (.one (.sl id off len cap)), some (.slice e) => (match hlook hp id, P.underlying e, sizeP P e with
    | some (.cells cs ty), some (.int k), some 1 => (match srcOf hp [.int k] (get y) with
      | some ([], _, l) => (match copyCV k l ((cs.drop off).take len) 0 with
        | some xs => bif Nat.ble (off + len) cs.length then
          some ⟨.sv (.one (.val false (.int .i64 (bif Nat.blt l.length len then l.length else len)))), [(id, .cells (stCells cs off xs) ty), (id, .elem id off len)], nx, [id]⟩ else none
        | none => none)
      | _ => none)
    | _, _, _ => none)
  | _, _ => none
theorem opCopy_ok {P : Program} {o : Oper} {get : Operand → RV} {hp : Hp} {nx : Nat} {out : Out} {t t' : TypeId} {x y : Operand} {c : Call} (ho : o.op = .call c) (hc : c.callee = .builtin .copy) (ha : c.args.toList = [x, y]) (hat : c.argTypes.toList = [t, t'])
    (h : opCopy P get hp nx t x y = some out) : OpOk P o get hp nx out := by
  have ha' : c.args = #[x, y] := by apply Array.ext'; simpa using ha
  have hat' : c.argTypes = #[t, t'] := by apply Array.ext'; simpa using hat
  have hop : o.op.operands = #[x, y] := by rw [ho]; simp [Op.operands, Call.operands, hc, ha']
  unfold opCopy at h
  split at h
  · rename_i id off len cap e hgx hu
    split at h
    · rename_i cs ty k hl hue hs1
      split at h
      · rename_i Y l hsrc
        split at h
        rotate_left
        · cases h
        rename_i xs hcp
        cases hb : Nat.ble (off + len) cs.length with
        | false => rw [hb] at h; cases h
        | true =>
          rw [hb] at h
          cases h
          have hb := Nat.le_of_ble_eq_true hb
          intro en a w hx hsat K Q hK
          have hx1 := hx x (by rw [hop]; simp)
          have hx2 := hx y (by rw [hop]; simp)
          rw [hgx] at hx1
          have hx1' : a.eval x = .slice (some ⟨en.ρ id, off, none⟩) len cap := hx1
          have hcell := hsat.holds _ _ hl
          simp only [HO.holds] at hcell
          obtain ⟨φ2, ⟨d, ad, cp, news, hv, hnone, hnl, hat2, hct⟩, _⟩ := srcOf_ok hsrc (by simp) hsat (T := []) (vx := .slice none 0 0) (fun id h => by cases h) (fun b h => by cases h)
          rw [hv] at hx2
          obtain ⟨hxl, hxs⟩ := copyCV_spec (e := en) hcp
          have hlen : ((cs.drop off).take len).length = len := by simp; omega
          rw [hlen] at hxl hxs
          have hnl1 : news.length = l.length := by simpa using hnl
          have hnews : ∀ i, i < l.length → news[i]? = some (.int k (rd l i 0).int) := by
            intro i hi
            obtain ⟨u, hu1, hu2⟩ := hct i hi 0 (.int k) rfl
            have e1 : i * [Sh.int k].length + 0 = i := by simp
            rw [e1] at hu1
            have : u = .int k (rd l i 0).int := by cases d <;> exact hu2
            rw [hu1, this]
          -- what lies there behind it
          have hrow : ((cs.map (CV.den en)).toArray.toList.take off ++ news.take len ++ (cs.map (CV.den en)).toArray.toList.drop (off + (news.take len).length)).toArray = ((stCells cs off xs).map (CV.den en)).toArray := by
            have := lay_eq (cs := cs.map (CV.den en)) (news := news) (xs := xs.map (CV.den en)) (off := off) (len := len) (by simp [hxl]) (by simpa using hb) (fun i hi => by
              rw [hxs i hi, Nat.zero_add]
              by_cases h3 : i < l.length
              · rw [if_pos h3, if_pos (by omega), hnews i h3]
              · rw [if_neg h3, if_neg (by omega)]
                simp [List.getElem?_take_of_lt hi])
            rw [show (cs.map (CV.den en)).toArray.toList = cs.map (CV.den en) from rfl, this]
            simp [stCells, List.map_take, List.map_drop, hxl]
          have h1c : ∀ v ∈ news.take len, v.oneCell' = true := by
            intro v hv
            obtain ⟨i, hi, rfl⟩ := List.getElem_of_mem hv
            have hi' : i < l.length := by simp [hnl1] at hi; omega
            have := hnews i hi'
            simp only [List.getElem_take]
            rw [List.getElem?_eq_getElem (by omega)] at this
            rw [Option.some.inj this]
            rfl
          have hres : (goInt ((news.take len).length : Nat)) = Value.int .i64 (bif Nat.blt l.length len then (l.length : Int) else (len : Int)) := by
            have hm : (news.take len).length = min len l.length := by simp [hnl1]
            rw [hm]
            by_cases h4 : l.length < len
            · rw [show Nat.blt l.length len = true from Nat.ble_eq_true_of_le h4, Nat.min_eq_right (by omega)]; rfl
            · rw [show Nat.blt l.length len = false from by cases hq : Nat.blt l.length len with | false => rfl | true => exact absurd (Nat.le_of_ble_eq_true hq) h4, Nat.min_eq_left (by omega)]; rfl
          have hrun : (Builtin.copy_ #[t, t'] o.type #[.slice (some ⟨en.ρ id, off, none⟩) len cap, .slice ad l.length cp]).run P w = .ok (Value.int .i64 (bif Nat.blt l.length len then (l.length : Int) else (len : Int))) (w.setRow (en.ρ id) ((stCells cs off xs).map (CV.den en)).toArray) := by
            have hs1' : (P.info? e).map (·.size) = some 1 := by unfold sizeP at hs1; exact hs1
            cases had : ad with
            | none =>
              obtain ⟨hz, rfl⟩ := hnone had
              have hl0 : l = [] := List.length_eq_zero_iff.1 hz
              subst hl0
              have hn0 : news = [] := List.length_eq_zero_iff.1 hnl1
              subst hn0
              have := run_copy_nil (P := P) w t t' o.type e ⟨en.ρ id, off, none⟩ len cap hu (by rw [hs1']; rfl)
              have hset : w.setRow (en.ρ id) ((stCells cs off xs).map (CV.den en)).toArray = w := by
                rw [← hrow]
                simp only [List.take_nil, List.append_nil, List.length_nil, Nat.add_zero, List.take_append_drop]
                exact setRow_self w _ _ _ _ hcell
              rw [hset]
              refine (show _ = _ from this).trans ?_
              rw [List.take_nil] at hres
              exact congrArg (fun v => Result.ok v w) hres
            | some a0 =>
              have := run_copy_row (P := P) w t t' o.type e (en.ρ id) off len cap a0 l.length cp _ ty (news.take len) hu hs1' hcell (by simp [hnl1, Nat.min_comm]) (fun j v hj => by
                have hj' : news[j]? = some v := by
                  rw [List.getElem?_take] at hj
                  split at hj
                  · exact hj
                  · cases hj
                exact hat2 a0 had j v hj') (by simp [hnl1]; omega) h1c
              rw [this, hres, hrow]
          refine wp_value (w' := w.setRow (en.ρ id) ((stCells cs off xs).map (CV.den en)).toArray) (v := Value.int .i64 (bif Nat.blt l.length len then (l.length : Int) else (len : Int))) ?_ ?_
          · simp only [execOp, ho, resolve, hc, ha', hat', List.map_toArray, List.map_cons, List.map_nil, hx1', hx2, Sem.run_bind, Sem.run_pure, Result.andThen_ok, invoke, builtin, hrun]
          · refine hK en _ (PostOp.log ⟨fun _ _ => .refl _ _, rfl, rfl, rfl, ?_, ?_, ⟨?_, ?_⟩, ?_, ?_⟩)
            · simp [World.setRow]
            · intro k hk hne
              exact setRow_other _ _ _ _ (fun h' => hne id (by simp) _ hl h')
            · intro id' o' ho'
              obtain ⟨rfl, rfl⟩ := hlook_one ho'
              exact setRow_heap w _ _ _ ty (0, 0) hcell
            · intro id1 o1 ho1 id2 o2 ho2 hne
              exact absurd ((hlook_one ho1).1.trans (hlook_one ho2).1.symm) hne
            · intro id' o' b ho' hf
              obtain ⟨rfl, rfl⟩ := hlook_one ho'
              exact .inr ⟨_, by simp, _, hl, hf⟩
            · intro id' o' b ho' hf
              obtain ⟨rfl, rfl⟩ := hlook_one ho'
              exact .inr (.inl ⟨_, by simp, _, hl, hf⟩)
      · cases h
    · cases h
  · cases h
/-- An element of an array by an open number: all the places that it may be. -/
def altsOf (mk : Nat → Option Out) (n : Int) : List Nat → Option (List (Bool × Out))
  | [] => some []
  | j :: js => match mk j, altsOf mk n js with
    | some out, some l => some ((decide (n = j), out) :: l)
    | _, _ => none
theorem altsOf_spec {mk : Nat → Option Out} {n : Int} : ∀ {js : List Nat} {l : List (Bool × Out)}, altsOf mk n js = some l → ∀ p ∈ l, ∃ j ∈ js, mk j = some p.2 ∧ p.1 = decide (n = j) := by
  intro js
  induction js with
  | nil => intro l h; cases h; intro p hp; cases hp
  | cons j js ih =>
    intro l h
    simp only [altsOf] at h
    split at h
    · rename_i out l' h1 h2
      cases h
      intro p hp
      rcases List.mem_cons.1 hp with rfl | hp
      · exact ⟨j, List.mem_cons_self, h1, rfl⟩
      · obtain ⟨j', g1, g2⟩ := ih h2 p hp
        exact ⟨j', List.mem_cons_of_mem _ g1, g2⟩
    · cases h
def idxOpen (P : Program) (o : Oper) (get : Operand → RV) (nx : Nat) : Option (List (Bool × Out)) :=
  match o.op with
  | .indexAddr t x i => (match get x, get i, P.underlying t with
    | .sv (.one (.ptr id off)), .sv (.one (.val false (.int _ n))), some (.array len e) => (match sizeP P e with
      | some s => bif Nat.ble len 64 then altsOf (fun j => some (.val nx (.sv (.one (.ptr id (off + j * s)))))) n (List.range len) else none
      | none => none)
    | .sv (.one (.eptr id off)), .sv (.one (.val false (.int _ n))), some (.array len e) => (match sizeP P e with
      | some s => bif Nat.ble len 15 then altsOf (fun j => some (.val nx (.sv (.one (.eptr id (off + j * s)))))) n (List.range len) else none
      | none => none)
    | _, _, _ => none)
  | .index t x i => (match get x, get i, P.underlying t with
    | .sv (.agg cs), .sv (.one (.val false (.int _ n))), some (.array len e) => (match sizeP P e with
      | some s => bif Nat.ble len 64 then altsOf (fun j => (ldCells P e cs (j * s)).map fun r => .val nx (.sv r)) n (List.range len) else none
      | none => none)
    | _, _, _ => none)
  | _ => none
theorem inB_ofNat {j len : Nat} (h : j < len) : inB ((j : Nat) : Int) len = true := Nat.ble_eq_true_of_le h
theorem idxOpen_ok {P : Program} {o : Oper} {get : Operand → RV} {hp : Hp} {nx : Nat} {l : List (Bool × Out)} (h : idxOpen P o get nx = some l) : ∀ p ∈ l, p.1 = true → OpOk P o get hp nx p.2 := by
  unfold idxOpen at h
  split at h
  · rename_i t x i ho
    split at h
    · rename_i id off k n len e hgx hgi hu
      split at h
      · rename_i s hs
        cases hb : Nat.ble len 64 with
        | false => rw [hb] at h; cases h
        | true =>
          rw [hb] at h
          intro p hp hp1
          obtain ⟨j, hj, h1, h2⟩ := altsOf_spec h p hp
          have hj := List.mem_range.1 hj
          rw [h2, decide_eq_true_eq] at hp1
          subst hp1
          refine opIndexAddr_ok ho ?_
          unfold opIndexAddr
          rw [hgi, hgx, hu]
          simp only [intOfRV, hs, inB_ofNat hj, cond_true]
          exact h1
      · cases h
    · rename_i id off k n len e hgx hgi hu
      split at h
      · rename_i s hs
        cases hb : Nat.ble len 15 with
        | false => rw [hb] at h; cases h
        | true =>
          rw [hb] at h
          intro p hp hp1
          obtain ⟨j, hj, h1, h2⟩ := altsOf_spec h p hp
          have hj := List.mem_range.1 hj
          rw [h2, decide_eq_true_eq] at hp1
          subst hp1
          refine opIndexAddr_ok ho ?_
          unfold opIndexAddr
          rw [hgi, hgx, hu]
          simp only [intOfRV, hs, inB_ofNat hj, cond_true]
          exact h1
      · cases h
    · cases h
  · rename_i t x i ho
    split at h
    · rename_i cs k n len e hgx hgi hu
      split at h
      · rename_i s hs
        cases hb : Nat.ble len 64 with
        | false => rw [hb] at h; cases h
        | true =>
          rw [hb] at h
          intro p hp hp1
          obtain ⟨j, hj, h1, h2⟩ := altsOf_spec h p hp
          have hj := List.mem_range.1 hj
          rw [h2, decide_eq_true_eq] at hp1
          subst hp1
          obtain ⟨r, h3, h4⟩ := Option.map_eq_some_iff.1 h1
          refine opIndex_ok ho ?_
          unfold opIndex
          rw [hgi, hgx, hu]
          simp only [intOfRV, hs, inB_ofNat hj, cond_true, Int.toNat_natCast, h3]
          exact congrArg some h4
      · cases h
    · cases h
  · cases h
theorem slice_nil {P : Program} {t el : TypeId} (h0 : P.underlying t = some (.slice el)) (a : Addr) (n c : Nat) (w : World) : (Op.equal t (.slice (some a) n c) (.slice none 0 0)).run P w = .ok false w := by
  show (Op.equalIn (9999 + 1) t (.slice (some a) n c) (.slice none 0 0)).run P w = _
  unfold Op.equalIn
  simp only [Sem.run_bind, run_underlying h0, Result.andThen_ok, Sem.run_pure]
/-- A slice that leads somewhere, beside nil. -/
def opNilS (P : Program) (get : Operand → RV) (hp : Hp) (nx : Nat) (op : BinOp) (t : TypeId) (x y : Operand) : Option (Bool × Out) :=
  match op, P.underlying t, get y with
  | .eql, some (.slice _), .sv (.one (.val _ (.slice none 0 0))) => (match get x with
    | .sv (.one (.sl _ _ _ _)) => some (true, boolOut true nx false)
    | .sv (.one (.ext id)) => (match (hlook hp id).bind HO.ls with
      | some p => some (decide (0 < p.2.length), boolOut true nx false)
      | none => none)
    | _ => none)
  | .neq, some (.slice _), .sv (.one (.val _ (.slice none 0 0))) => (match get x with
    | .sv (.one (.sl _ _ _ _)) => some (true, boolOut true nx true)
    | .sv (.one (.ext id)) => (match (hlook hp id).bind HO.ls with
      | some p => some (decide (0 < p.2.length), boolOut true nx true)
      | none => none)
    | _ => none)
  | _, _, _ => none
theorem ext_some {hp : Hp} {id : Nat} {p : List Sh × List (List Ct)} {e : Env} {w : World} (hsat : Sat e (hlook hp) w) (h : (hlook hp id).bind HO.ls = some p) (hl : 0 < p.2.length) : ∃ a n c, e.slv id = .slice (some a) n c := by
  cases ho : hlook hp id with
  | none => rw [ho] at h; cases h
  | some o =>
    rw [ho] at h
    have hh := hsat.holds _ _ ho
    obtain ⟨d, hr⟩ := HO.rowsAt hh (p := p) h
    obtain ⟨a, cap, hv, h1, h2, h0, h3⟩ := hr
    obtain ⟨b, off, ha, _⟩ := h3 0 hl
    exact ⟨_, _, _, by rw [hv, ha]⟩
theorem opNilS_ok {P : Program} {o : Oper} {get : Operand → RV} {hp : Hp} {nx : Nat} {out : Out} {op : BinOp} {t yt : TypeId} {x y : Operand} {b : Bool} (ho : o.op = .binOp op t x y yt) (h : opNilS P get hp nx op t x y = some (b, out)) (hb : b = true) : OpOk P o get hp nx out := by
  have main : ∀ (r : Bool) (el : TypeId) (k : Bool), op = (if r then .neq else .eql) → P.underlying t = some (.slice el) → get y = .sv (.one (.val k (.slice none 0 0))) → (∀ e w, Sat e (hlook hp) w → ∃ a n c, (get x).den e = .slice (some a) n c) → out = boolOut true nx r → OpOk P o get hp nx out := by
    intro r el k hop h0 hy hx0 hout
    subst hout
    refine OpOk.val fun e a w hx hs => ?_
    have hx1 := hx x (by rw [ho]; simp [Op.operands])
    have hx2 := hx y (by rw [ho]; simp [Op.operands])
    rw [hy] at hx2
    obtain ⟨a0, n, c, hd⟩ := hx0 e w hs
    rw [hd] at hx1
    have hx2' : a.eval y = .slice none 0 0 := hx2
    cases r with
    | false =>
      subst hop
      simp only [execOp, ho, hx1, hx2', Sem.run_bind]
      have e1 : binOp .eql t (.slice (some a0) n c) (.slice none 0 0) = (do pure (.bool (← Op.equal t (.slice (some a0) n c) (.slice none 0 0)))) := rfl
      simp only [eqGuard, Bool.false_eq_true, if_false, e1, Sem.run_bind, slice_nil h0, Result.andThen_ok, Sem.run_pure]
      rfl
    | true =>
      subst hop
      simp only [execOp, ho, hx1, hx2', Sem.run_bind]
      have e1 : binOp .neq t (.slice (some a0) n c) (.slice none 0 0) = (do pure (.bool (!(← Op.equal t (.slice (some a0) n c) (.slice none 0 0))))) := rfl
      simp only [eqGuard, if_true, e1, Sem.run_bind, slice_nil h0, Result.andThen_ok, Sem.run_pure]
      rfl
  subst hb
  unfold opNilS at h
  split at h
  · rename_i el k h0 hy
    split at h
    · rename_i id off len cap hgx
      cases h
      exact main false el k rfl h0 hy (fun e w _ => ⟨⟨e.ρ id, off, none⟩, len, cap, by rw [hgx]; rfl⟩) rfl
    · rename_i id hgx
      split at h
      · rename_i p hp'
        simp only [Option.some.injEq, Prod.mk.injEq, decide_eq_true_eq] at h
        exact main false el k rfl h0 hy (fun e w hs => by rw [hgx]; exact ext_some hs hp' h.1) h.2.symm
      · cases h
    · cases h
  · rename_i el k h0 hy
    split at h
    · rename_i id off len cap hgx
      cases h
      exact main true el k rfl h0 hy (fun e w _ => ⟨⟨e.ρ id, off, none⟩, len, cap, by rw [hgx]; rfl⟩) rfl
    · rename_i id hgx
      split at h
      · rename_i p hp'
        simp only [Option.some.injEq, Prod.mk.injEq, decide_eq_true_eq] at h
        exact main true el k rfl h0 hy (fun e w hs => by rw [hgx]; exact ext_some hs hp' h.1) h.2.symm
      · cases h
    · cases h
  · cases h
/-- A slice that is read alone, seen as one row of so many cells. -/
def opArrAt (P : Program) (get : Operand → RV) (hp : Hp) (nx : Nat) (arr : TypeId) (x : Operand) : Option (Bool × Out) :=
  match P.underlying arr, get x with
  | some (.array n _), .sv (.one (.ext id)) => (match hlook hp id with
    | some (.grid [s] l) => bif Nat.ble 1 n && Nat.blt id nx then some (decide (n ≤ l.length), ⟨.sv (.one (.eptr (nx + 1) 0)), [(nx + 1, .elem nx 0 n), (nx, .grid (List.replicate n s) [(List.range n).map fun k => rd l k 0])], nx + 2, []⟩) else none
    | _ => none)
  | _, _ => none
theorem opArrAt_ok {P : Program} {o : Oper} {get : Operand → RV} {hp : Hp} {nx : Nat} {out : Out} {arr : TypeId} {x : Operand} {b : Bool} (ho : o.op = .sliceToArrayPointer arr x) (h : opArrAt P get hp nx arr x = some (b, out)) (hb : b = true) : OpOk P o get hp nx out := by
  unfold opArrAt at h
  split at h
  · rename_i n el id hu hg
    split at h
    · rename_i s l hl
      cases hq : (Nat.ble 1 n && Nat.blt id nx) with
      | false => rw [hq] at h; cases h
      | true =>
        rw [hq] at h
        simp only [cond_true, Option.some.injEq, Prod.mk.injEq] at h
        obtain ⟨rfl, rfl⟩ := h
        simp only [Bool.and_eq_true] at hq
        have hn := Nat.le_of_ble_eq_true hq.1
        have hid : id < nx := Nat.le_of_ble_eq_true hq.2
        have hle := of_decide_eq_true hb
        intro e a w hx hsat K Q hK
        have hx1 := hx x (by rw [ho]; simp [Op.operands])
        rw [hg] at hx1
        obtain ⟨⟨d, a', cap, hv, h1, h2, h0, hc⟩, hφ⟩ := hsat.holds _ _ hl
        obtain ⟨bk, off, ha, hf, _⟩ := hc 0 (by omega)
        subst ha
        have hx1' : a.eval x = .slice (some ⟨bk, off, none⟩) l.length cap := by rw [hx1]; exact hv
        refine wp_value (w' := w) (v := .pointer (some ⟨bk, off, none⟩)) ?_ ?_
        · simp only [execOp, ho, hx1', Instr.arrayAt, Sem.run_bind, run_underlying hu, Result.andThen_ok]
          rw [if_neg (by omega)]
          rfl
        · have hs1 : ∀ i, i ≠ nx → i ≠ nx + 1 → e.same ((e.setS nx (some ⟨bk, off, none⟩, 1, 1) (e.φ id)).setS (nx + 1) (some ⟨bk, off, none⟩, 0, 0) fun _ => False) i := fun i hi hj => (Env.setS_same hi).trans (Env.setS_same hj)
          have hs2 : (e.setS nx (some ⟨bk, off, none⟩, 1, 1) (e.φ id)).same ((e.setS nx (some ⟨bk, off, none⟩, 1, 1) (e.φ id)).setS (nx + 1) (some ⟨bk, off, none⟩, 0, 0) fun _ => False) nx := Env.setS_same (by omega)
          have := hK ((e.setS nx (some ⟨bk, off, none⟩, 1, 1) (e.φ id)).setS (nx + 1) (some ⟨bk, off, none⟩, 0, 0) fun _ => False) w (PostOp.view (fun id' h => hs1 id' (by omega) (by omega)) fun id' o' h => ?_)
          · simpa [RV.den, SV.den, CV.den, Env.blk, Env.off, Env.setS_σ] using this
          · simp only [hlook] at h
            cases q1 : Nat.beq (nx + 1) id' with
            | true =>
              rw [q1] at h
              cases h
              obtain rfl := Nat.eq_of_beq_eq_true q1
              refine ⟨⟨⟨⟨bk, off, none⟩, ?_, rfl, ?_⟩, ?_⟩, fun _ h => h, fun _ h => False.elim h⟩
              · rw [hs2.2.1, Env.setS_σ]
              · rw [Env.setS_σ]; simp
              · rw [hs2.2.1, Env.setS_σ]; exact Nat.one_pos
            | false =>
              rw [q1] at h
              obtain ⟨rfl, rfl⟩ := hlook_one h
              refine ⟨⟨⟨d, some ⟨bk, off, none⟩, 1, ?_, Nat.le_refl _, by omega, (fun h => by cases h), fun i hi => ⟨bk, off, rfl, ?_, fun j s' hs' => ?_⟩⟩, fun b hb' => ?_⟩, fun _ h => h, fun b hb' => ⟨id, _, hl, ?_, fun h => h⟩⟩
              · rw [hs2.slv, Env.setS_slv]; rfl
              · rw [hs2.2.2, Env.setS_φ]; exact hf
              · have hj : j < n := by
                  have := (List.getElem?_eq_some_iff.1 hs').1
                  simpa using this
                have hss : s' = s := by
                  rw [List.getElem?_replicate, if_pos hj] at hs'
                  exact (Option.some.inj hs').symm
                subst hss
                obtain ⟨b', off', ha', _, hcell⟩ := hc j (by omega)
                cases ha'
                obtain ⟨u, hu1, hu2⟩ := hcell 0 s' rfl
                have hi0 : i = 0 := by simpa using hi
                subst hi0
                refine ⟨u, ?_, ?_⟩
                · rw [← hu1]; congr 1; congr 1; simp
                · have hrd : rd [(List.range n).map fun k => rd l k 0] 0 j = rd l j 0 := by
                    simp [rd, List.getD, hj]
                  rw [hrd, hs2.2.2, Env.setS_φ]
                  exact hu2
              · rw [hs2.2.2, Env.setS_φ] at hb'
                exact hφ b hb'
              · have hb2 : ((e.setS id' (some ⟨bk, off, none⟩, 1, 1) (e.φ id)).setS (id' + 1) (some ⟨bk, off, none⟩, 0, 0) fun _ => False).φ id' b := hb'
                rw [hs2.2.2, Env.setS_φ] at hb2
                exact hb2
    · cases h
  · cases h
end Go.Proofs.Ytonlllijdbjkaaa

/- A symbolic way through the code of a call: slices whose room is known; arrays that are package variables. No condition. -/
set_option linter.unusedVariables false
namespace Go.Proofs.Ytonlllijdbjkaaa
open Go.RowKit

/-- How much the slice id may hold, where that is told. -/
def tieCap (hp : Hp) (id : Nat) : Hp → Option Nat
  | [] => none
  | (i, .tie false k _) :: r => bif Nat.beq k id then (match hlook hp i with
    | some (.tie false k' c) => bif Nat.beq k' id then some c else tieCap hp id r
    | _ => tieCap hp id r) else tieCap hp id r
  | _ :: r => tieCap hp id r
theorem tieCap_ok {hp : Hp} {id c : Nat} : ∀ {l : Hp}, tieCap hp id l = some c → ∃ i, hlook hp i = some (.tie false id c) := by
  intro l
  induction l with
  | nil => intro h; cases h
  | cons p l ih =>
    obtain ⟨i, o⟩ := p
    intro h
    unfold tieCap at h
    split at h
    · rename_i heq; cases heq
    · rename_i i1 k x r heq
      cases heq
      cases hb : Nat.beq k id with
      | false => rw [hb] at h; exact ih h
      | true =>
        rw [hb] at h
        simp only [cond_true] at h
        split at h
        · rename_i k' c' ho
          cases hb' : Nat.beq k' id with
          | false => rw [hb'] at h; exact ih h
          | true =>
            rw [hb'] at h
            cases h
            obtain rfl := Nat.eq_of_beq_eq_true hb'
            exact ⟨_, ho⟩
        · exact ih h
    · rename_i p r _ heq
      cases heq
      exact ih h
/-- The name of the slice that a package variable's block begins, where that is told. -/
def tieGlob (hp : Hp) (g : Nat) : Hp → Option Nat
  | [] => none
  | (i, .tie true _ x) :: r => bif Nat.beq x g then (match hlook hp i with
    | some (.tie true k x') => bif Nat.beq x' g then some k else tieGlob hp g r
    | _ => tieGlob hp g r) else tieGlob hp g r
  | _ :: r => tieGlob hp g r
theorem tieGlob_ok {hp : Hp} {g k : Nat} : ∀ {l : Hp}, tieGlob hp g l = some k → ∃ i, hlook hp i = some (.tie true k g) := by
  intro l
  induction l with
  | nil => intro h; cases h
  | cons p l ih =>
    obtain ⟨i, o⟩ := p
    intro h
    unfold tieGlob at h
    split at h
    · rename_i heq; cases heq
    · rename_i i1 k1 x r heq
      cases heq
      cases hb : Nat.beq x g with
      | false => rw [hb] at h; exact ih h
      | true =>
        rw [hb] at h
        simp only [cond_true] at h
        split at h
        · rename_i k' c' ho
          cases hb' : Nat.beq c' g with
          | false => rw [hb'] at h; exact ih h
          | true =>
            rw [hb'] at h
            cases h
            obtain rfl := Nat.eq_of_beq_eq_true hb'
            exact ⟨_, ho⟩
        · exact ih h
    · rename_i p r _ heq
      cases heq
      exact ih h
/-- Numbers laid behind a slice that is full: into a new block. -/
def opAppendT (P : Program) (get : Operand → RV) (hp : Hp) (nx : Nat) (t : TypeId) (x y : Operand) : Option (Bool × Out) :=
  match P.underlying t, get x with
  | some (.slice e), .sv (.one (.ext id)) => (match hlook hp id, tieCap hp id hp with
    | some (.grid [.int k] l1), some c => (match P.info? e, srcOf hp [.int k] (get y) with
      | some i, some ([], Y, l2) => (match i.zero with
        | some z => bif Nat.beq i.size 1 && Nat.beq z.cells.size 1 then
            some (decide (c < l1.length + l2.length ∧ 0 < l1.length ∧ 0 < l2.length ∧ l1.length + l2.length ≤ 9223372036854775807 ∧ (l1.length + l2.length) * i.bytes ≤ 140737488355328), ⟨.sv (.one (.ext nx)), [(nx, .row [.int k] e (l1 ++ l2))], nx + 1, []⟩) else none
        | none => none)
      | _, _ => none)
    | _, _ => none)
  | _, _ => none
theorem opAppendT_ok {P : Program} {o : Oper} {get : Operand → RV} {hp : Hp} {nx : Nat} {out : Out} {t : TypeId} {x y : Operand} {c : Call} {b : Bool} (ho : o.op = .call c) (hc : c.callee = .builtin .append) (ha : c.args.toList = [x, y]) (hat : c.argTypes.toList = [t, t])
    (h : opAppendT P get hp nx t x y = some (b, out)) (hb : b = true) : OpOk P o get hp nx out := by
  have ha' : c.args = #[x, y] := by apply Array.ext'; simpa using ha
  have hat' : c.argTypes = #[t, t] := by apply Array.ext'; simpa using hat
  have hop : o.op.operands = #[x, y] := by rw [ho]; simp [Op.operands, Call.operands, hc, ha']
  unfold opAppendT at h
  split at h
  · rename_i el id hu hgx
    split at h
    · rename_i k l1 cp hl hcap
      split at h
      · rename_i i Y l2 hi hS
        split at h
        · rename_i z hz
          cases hq : (Nat.beq i.size 1 && Nat.beq z.cells.size 1) with
          | false => rw [hq] at h; cases h
          | true =>
            rw [hq] at h
            simp only [cond_true, Option.some.injEq, Prod.mk.injEq] at h
            obtain ⟨rfl, rfl⟩ := h
            simp only [decide_eq_true_eq] at hb
            obtain ⟨g1, g2, g3, g4, g5⟩ := hb
            rw [Bool.and_eq_true] at hq
            have q1 := Nat.eq_of_beq_eq_true hq.1
            have q2 := Nat.eq_of_beq_eq_true hq.2
            obtain ⟨it, hit⟩ := tieCap_ok hcap
            intro e a w hx hsat K Q hK
            have hx1 := hx x (by rw [hop]; simp)
            have hx2 := hx y (by rw [hop]; simp)
            rw [hgx] at hx1
            have hcc : (e.σ id).2.2 = cp := (hsat.holds _ _ hit).2 rfl
            obtain ⟨⟨d, ad, cap, hv, hle, hcm, h0, hcell⟩, hφ⟩ := hsat.holds _ _ hl
            have hcap' : cap = cp := by
              simp only [Env.slv, Value.slice.injEq] at hv
              rw [← hcc, hv.2.2]
            subst hcap'
            obtain ⟨bk, off, had, _, _⟩ := hcell 0 g2
            subst had
            obtain ⟨φ2, ⟨⟨d2, ad2, c2, news, hv2, ha2, hnl, hcell2, hct2⟩⟩, _⟩ := srcOf_ok (T := []) (vx := .slice none 0 0) hS (by simp) hsat (fun id h => by cases h) (fun b h => by cases h)
            have hx1' : a.eval x = .slice (some ⟨bk, off, none⟩) l1.length cap := by rw [hx1]; exact hv
            rw [hv2] at hx2
            cases ad2 with
            | none => exact absurd (ha2 rfl).1 (by omega)
            | some ad2 =>
            have hnl' : news.length = l2.length * i.size := by rw [hnl, q1]; simp
            have hol : (l1.map fun r => Value.int k (r.getD 0 (.i 0)).int).length = l1.length * i.size := by rw [q1]; simp
            have hr := run_append_grow (P := P) w t o.type el i z hu hi hz ⟨bk, off, none⟩ l1.length cap (l1.map fun r => Value.int k (r.getD 0 (.i 0)).int) hol (fun j u hj => by
              rw [addr_add]
              simp only [List.getElem?_map, Option.map_eq_some_iff] at hj
              obtain ⟨r, hr, rfl⟩ := hj
              obtain ⟨hlt, _⟩ := List.getElem?_eq_some_iff.1 hr
              obtain ⟨b1, o1, h1, _, h2⟩ := hcell j hlt
              cases h1
              obtain ⟨u, hu1, hu2⟩ := h2 0 (.int k) rfl
              have hh : u = .int k (rd l1 j 0).int := by cases d <;> exact hu2
              simp only [List.length_singleton, Nat.mul_one, Nat.add_zero] at hu1
              rw [hu1, hh]
              simp [rd, List.getD_eq_getElem?_getD, hr]) ad2 l2.length c2 news hnl' (fun j u hj => hcell2 ad2 rfl j u hj) g1 (by omega) (growslice_fits (by omega) g5)
            have hge := grownCap_ge w (l1.length + l2.length) cap el
            have hcm2 := grownCap_le_maxLen w (l1.length + l2.length) cap el (by simp only [maxLen]; omega)
            have hlen : ((l1.map fun r => Value.int k (r.getD 0 (.i 0)).int) ++ news).length = (l1.length + l2.length) * 1 := by rw [List.length_append, hol, hnl', q1]; omega
            refine wp_value (w' := w.drew.alloc (.cells ((l1.map fun r => Value.int k (r.getD 0 (.i 0)).int).toArray ++ news.toArray ++ Builtin.zeroCells z.cells (grownCap w (l1.length + l2.length) cap el - (l1.length + l2.length))) el)) (v := .slice (some ⟨w.heap.size, 0, none⟩) (l1.length + l2.length) (grownCap w (l1.length + l2.length) cap el)) ?_ ?_
            · simp only [execOp, ho, resolve, hc, ha', hat', List.map_toArray, List.map_cons, List.map_nil, hx1', hx2, Sem.run_bind, Sem.run_pure, Result.andThen_ok, invoke, builtin, hr]
            · have := hK (e.setS nx (some ⟨w.heap.size, 0, none⟩, l1.length + l2.length, grownCap w (l1.length + l2.length) cap el) fun _ => False) (w.drew.alloc (.cells ((l1.map fun r => Value.int k (r.getD 0 (.i 0)).int).toArray ++ news.toArray ++ Builtin.zeroCells z.cells (grownCap w (l1.length + l2.length) cap el - (l1.length + l2.length))) el))
                ⟨fun id' hid => Env.setS_same (by simp only at hid; omega), rfl, rfl, rfl, by simp, fun k' hk' _ => heap_alloc_old w.drew _ hk', ⟨fun id' o' ho' => ?_, fun id' o' ho' id2 o2 ho2 hne => absurd ((hlook_one ho').1.trans (hlook_one ho2).1.symm) hne⟩, fun id' o' b' ho' hb' => ?_, fun id' o' b' ho' hb' => ?_⟩
              · simpa [RV.den, SV.den, CV.den, Env.setS_slv] using this
              · obtain ⟨rfl, rfl⟩ := hlook_one ho'
                refine ⟨⟨d2, (l1.map fun r => Value.int k (r.getD 0 (.i 0)).int) ++ news, ⟨by rw [hlen, List.length_append]; simp, .inr ⟨w.heap.size, _, _, ?_, Nat.zero_le _, heap_alloc_new w.drew _, ?_, hcm2, ?_, ?_⟩⟩, fun q hq j s hs => ?_⟩, fun b' hb' => ?_⟩
                · rw [Env.setS_slv, List.length_append]
                · rw [List.length_append]; exact hge
                · simp only [Array.size_append, List.size_toArray, size_zeroCells, q2, hol, hnl', q1, List.length_singleton]
                  omega
                · simp only [Array.toList_append, List.append_assoc]
                  rw [← List.append_assoc, List.length_append, show [Sh.int k].length = 1 from rfl, ← hlen]
                  exact List.take_left
                · cases j with
                  | succ j => simp at hs
                  | zero =>
                    simp only [List.getElem?_cons_zero, Option.some.injEq] at hs
                    subst hs
                    rw [show q * [Sh.int k].length + 0 = q by simp, rd_append]
                    have e1 : (l1.map fun r => Value.int k (r.getD 0 (.i 0)).int).length = l1.length := by simp
                    by_cases hq1 : q < l1.length
                    · refine ⟨.int k (rd l1 q 0).int, ?_, ?_⟩
                      · rw [List.getElem?_append_left (by omega)]
                        simp [rd, List.getD_eq_getElem?_getD, hq1]
                      · rw [if_pos hq1]; cases d2 <;> rfl
                    · have hq2 : q - l1.length < l2.length := by rw [List.length_append] at hq; omega
                      obtain ⟨u, hu1, hu2⟩ := hct2 (q - l1.length) hq2 0 (.int k) rfl
                      refine ⟨u, ?_, ?_⟩
                      · rw [List.getElem?_append_right (by omega), e1, ← hu1]
                        simp
                      · rw [if_neg hq1]
                        cases d2 <;> exact hu2
                · rw [Env.setS_φ] at hb'; exact False.elim hb'
              · obtain ⟨rfl, rfl⟩ := hlook_one ho'
                have hb2 : (Env.slv (e.setS id' (some ⟨w.heap.size, 0, none⟩, l1.length + l2.length, grownCap w (l1.length + l2.length) cap el) fun _ => False) id').ownBlock = some b' := hb'
                rw [Env.setS_slv] at hb2
                cases hb2
                exact .inl (Nat.le_refl _)
              · obtain ⟨rfl, rfl⟩ := hlook_one ho'
                rcases hb' with hb' | hb'
                · rw [Env.setS_slv] at hb'
                  cases hb'
                  exact .inl (Nat.le_refl _)
                · rw [Env.setS_φ] at hb'; exact False.elim hb'
        · cases h
      · cases h
    · cases h
  · cases h
/-- The address of an element of a package variable, by an open number. -/
def opIndexG (P : Program) (get : Operand → RV) (hp : Hp) (nx : Nat) (t : TypeId) (x i : Operand) : Option (Bool × Out) :=
  match get x, intOfRV (get i), P.underlying t with
  | .sv (.one (.val _ (.pointer (some ⟨g, 0, none⟩)))), some j, some (.array len el) => (match tieGlob hp g hp, sizeP P el with
    | some k, some s => (match hlook hp k with
      | some (.grid sh l) => bif Nat.beq s sh.length then some (decide (0 ≤ j ∧ j < len ∧ j < l.length), ⟨.sv (.one (.eptr nx 0)), [(nx, .elem k j.toNat sh.length)], nx + 1, []⟩) else none
      | _ => none)
    | _, _ => none)
  | _, _, _ => none
theorem opIndexG_ok {P : Program} {o : Oper} {get : Operand → RV} {hp : Hp} {nx : Nat} {out : Out} {t : TypeId} {x i : Operand} {b : Bool} (hwf : WfOp get o hp nx) (ho : o.op = .indexAddr t x i) (h : opIndexG P get hp nx t x i = some (b, out)) (hb : b = true) : OpOk P o get hp nx out := by
  unfold opIndexG at h
  split at h
  · rename_i kn g j len el hg hj hu
    split at h
    · rename_i k s hk hs
      split at h
      · rename_i sh l hl
        cases hbq : Nat.beq s sh.length with
        | false => rw [hbq] at h; cases h
        | true =>
          rw [hbq] at h
          simp only [cond_true, Option.some.injEq, Prod.mk.injEq] at h
          obtain ⟨rfl, rfl⟩ := h
          obtain rfl := Nat.eq_of_beq_eq_true hbq
          simp only [decide_eq_true_eq] at hb
          obtain ⟨hj0, hjn, hjl⟩ := hb
          obtain ⟨it, hit⟩ := tieGlob_ok hk
          intro e a w hx hsat K Q hK
          have hx1 := hx x (by rw [ho]; simp [Op.operands])
          have hx2 := hx i (by rw [ho]; simp [Op.operands])
          obtain ⟨k2, hk2⟩ := intOfRV_spec hj e
          rw [hg] at hx1
          rw [hk2] at hx2
          have hσ : (e.σ k).1 = some ⟨g, 0, none⟩ := (hsat.holds _ _ hit).1 rfl
          obtain ⟨⟨d, a', cap, hv, h1, h2, h0, hc⟩, _⟩ := hsat.holds _ _ hl
          have hlen : (e.σ k).2.1 = l.length := by
            simp only [Env.slv, Value.slice.injEq] at hv
            exact hv.2.1
          have hid := (hwf.hp k _ hl).1
          have hx1' : a.eval x = .pointer (some ⟨g, 0, none⟩) := hx1
          refine wp_value (w' := w) (v := .pointer (some ⟨g, 0 + j.toNat * sh.length, none⟩)) ?_ ?_
          · simp only [execOp, ho, hx1', hx2, Instr.indexAt, asIntOf, Sem.run_bind, run_underlying hu, Result.andThen_ok, Instr.sureAddr, Sem.run_pure]
            simp only [hj0, hjn, and_self, if_true, Sem.run_bind, sizeP_run hs, Result.andThen_ok, Sem.run_pure, addr_add]
          · have := hK (e.setS nx (some ⟨g, 0 + j.toNat * sh.length, none⟩, 0, 0) fun _ => False) w (PostOp.view (fun id' h => Env.setS_same (by omega)) fun id' o' h => ?_)
            · simpa [RV.den, SV.den, CV.den, Env.blk, Env.off, Env.setS_σ] using this
            · obtain ⟨rfl, rfl⟩ := hlook_one h
              have hne : k ≠ id' := by omega
              refine ⟨⟨⟨⟨g, 0, none⟩, ?_, rfl, ?_⟩, ?_⟩, fun _ h => h, fun _ h => False.elim h⟩
              · rw [(Env.setS_same (e := e) (i := k) hne).2.1]; exact hσ
              · rw [Env.setS_σ]
              · rw [(Env.setS_same (e := e) (i := k) hne).2.1, hlen]
                omega
      · cases h
    · cases h
  · cases h
/-- The numbers that an array's cells hold. -/
def intsOf (k : IntKind) : List CV → Option (List Int)
  | [] => some []
  | .val _ (.int k' n) :: cs => if k' = k then (match intsOf k cs with
    | some l => some (n :: l)
    | none => none) else none
  | _ => none
theorem intsOf_spec {k : IntKind} {cs : List CV} {l : List Int} (h : intsOf k cs = some l) (j : Nat) (hj : j < l.length) : ∃ b, cs[j]? = some (.val b (.int k (l.getD j 0))) := by
  induction cs generalizing l j with
  | nil => simp only [intsOf, Option.some.injEq] at h; subst h; simp at hj
  | cons c cs ih =>
    unfold intsOf at h
    split at h
    · rename_i heq; cases heq
    · rename_i b k' n cs' heq
      cases heq
      split at h
      · rename_i hk
        subst hk
        split at h
        · rename_i l' hl
          cases h
          cases j with
          | zero => exact ⟨b, rfl⟩
          | succ j =>
            obtain ⟨b', hb'⟩ := ih hl j (by simpa using hj)
            exact ⟨b', by simpa using hb'⟩
        · cases h
      · cases h
    · cases h
/-- A number of an array that is a value, by an open number. -/
def opIndexV (P : Program) (get : Operand → RV) (nx : Nat) (t : TypeId) (x i : Operand) : Option (Bool × Out) :=
  match get x, get i, P.underlying t with
  | .sv (.agg (.val b0 (.int k n0) :: cs)), .sv (.one (.val false (.int _ n))), some (.array len e) => (match sizeP P e, isAggP P e, intsOf k (.val b0 (.int k n0) :: cs) with
    | some 1, some false, some l => bif Nat.beq l.length len then some (decide (0 ≤ n ∧ n < len), .val nx (.sv (.one (.val false (.int k (l.getD n.toNat 0)))))) else none
    | _, _, _ => none)
  | _, _, _ => none
theorem opIndexV_ok {P : Program} {o : Oper} {get : Operand → RV} {hp : Hp} {nx : Nat} {out : Out} {t : TypeId} {x i : Operand} {b : Bool} (ho : o.op = .index t x i) (h : opIndexV P get nx t x i = some (b, out)) (hb : b = true) : OpOk P o get hp nx out := by
  unfold opIndexV at h
  split at h
  · rename_i b0 k n0 cs ki n len el hg hi hu
    split at h
    · rename_i l hs ha hl
      cases hq : Nat.beq l.length len with
      | false => rw [hq] at h; cases h
      | true =>
        rw [hq] at h
        have hlen := Nat.eq_of_beq_eq_true hq
        simp only [cond_true, Option.some.injEq, Prod.mk.injEq] at h
        obtain ⟨rfl, rfl⟩ := h
        simp only [decide_eq_true_eq] at hb
        obtain ⟨b1, hb1⟩ := intsOf_spec hl n.toNat (by omega)
        have hld : ldCells P el (.val b0 (.int k n0) :: cs) (n.toNat * 1) = some (.one (.val b1 (.int k (l.getD n.toNat 0)))) := by
          unfold ldCells
          rw [ha, Nat.mul_one, hb1]
        refine OpOk.val fun e a w hx hsat => ?_
        have hx1 := hx x (by rw [ho]; simp [Op.operands])
        have hx2 := hx i (by rw [ho]; simp [Op.operands])
        rw [hg] at hx1
        rw [hi] at hx2
        simp only [execOp, ho, hx1, hx2, RV.den, SV.den, CV.den, Instr.index, asIntOf, Sem.run_bind, run_underlying hu, Result.andThen_ok, Sem.run_pure]
        simp only [hb, and_self, if_true, Sem.run_bind, sizeP_run hs, Result.andThen_ok]
        have hp := ldCells_part (e := e) w hld
        rw [hp]
        rfl
    · cases h
  · cases h
/-- An array's numbers, as rows. -/
def numRows (l : List Int) : List (List Ct) := l.map fun n => [.i n]
/-- A new variable that holds an array of numbers: a row of one's own. -/
def opBoxA (P : Program) (get : Operand → RV) (nx : Nat) (t : TypeId) (x : Operand) : Option Out :=
  match get x, P.underlying t with
  | .sv (.agg (.val b0 (.int k n0) :: cs)), some (.array len e) => (match sizeP P e, isAggP P e, intsOf k (.val b0 (.int k n0) :: cs) with
    | some 1, some false, some l => bif Nat.beq l.length len && Nat.ble 16 len && Nat.ble len 65536 then some ⟨.sv (.one (.eptr (nx + 1) 0)), [(nx, .row [.int k] t (numRows l)), (nx + 1, .elem nx 0 1)], nx + 2, []⟩ else none
    | _, _, _ => none)
  | _, _ => none
theorem intsOf_cells {k : IntKind} {e : Env} : ∀ {cs : List CV} {l : List Int}, intsOf k cs = some l → cs.map (CV.den e) = l.map (Value.int k) := by
  intro cs
  induction cs with
  | nil => intro l h; simp only [intsOf, Option.some.injEq] at h; subst h; rfl
  | cons c cs ih =>
    intro l h
    unfold intsOf at h
    split at h
    · rename_i heq; cases heq
    · rename_i b k' n cs' heq
      cases heq
      split at h
      · rename_i hk
        subst hk
        split at h
        · rename_i l' hl
          cases h
          simp only [List.map_cons, CV.den, ih hl]
        · cases h
      · cases h
    · cases h
theorem numRows_rd {l : List Int} {i : Nat} (h : i < l.length) : rd (numRows l) i 0 = .i (l.getD i 0) := by
  simp [rd, numRows, List.getD_eq_getElem?_getD, h]
theorem opBoxA_ok {P : Program} {o : Oper} {get : Operand → RV} {hp : Hp} {nx : Nat} {out : Out} {t : TypeId} {x : Operand} (ho : o.op = .box t x) (h : opBoxA P get nx t x = some out) : OpOk P o get hp nx out := by
  unfold opBoxA at h
  split at h
  · rename_i b0 k n0 cs len el hg hu
    split at h
    · rename_i l hs ha hl
      cases hq : (Nat.beq l.length len && Nat.ble 16 len && Nat.ble len 65536) with
      | false => rw [hq] at h; cases h
      | true =>
        rw [hq] at h
        cases h
        simp only [Bool.and_eq_true] at hq
        have q1 := Nat.eq_of_beq_eq_true hq.1.1
        have q2 := Nat.le_of_ble_eq_true hq.1.2
        have q3 := Nat.le_of_ble_eq_true hq.2
        subst q1
        intro e a w hx hsat K Q hK
        have hx' := hx x (by rw [ho]; simp [Op.operands])
        rw [hg] at hx'
        have hc := intsOf_cells (e := e) hl
        refine wp_value (w' := w.alloc (.cells (l.map (Value.int k)).toArray t)) (v := .pointer (some ⟨w.heap.size, 0, none⟩)) ?_ ?_
        · simp only [execOp, ho, Instr.box, hx', RV.den, SV.den, newVar, newRow, hc]
          rfl
        · have hrl : (numRows l).length = l.length := by simp [numRows]
          have h0 : ((e.setS nx (some ⟨w.heap.size, 0, none⟩, l.length, l.length) fun _ => False).setS (nx + 1) (some ⟨w.heap.size, 0, none⟩, 0, 0) fun _ => False).σ nx = (some ⟨w.heap.size, 0, none⟩, l.length, l.length) := by simp [Env.setS]
          have hφ : ((e.setS nx (some ⟨w.heap.size, 0, none⟩, l.length, l.length) fun _ => False).setS (nx + 1) (some ⟨w.heap.size, 0, none⟩, 0, 0) fun _ => False).φ nx = fun _ => False := by simp [Env.setS]
          have h1 : ((e.setS nx (some ⟨w.heap.size, 0, none⟩, l.length, l.length) fun _ => False).setS (nx + 1) (some ⟨w.heap.size, 0, none⟩, 0, 0) fun _ => False).σ (nx + 1) = (some ⟨w.heap.size, 0, none⟩, 0, 0) := by simp [Env.setS]
          have hown : ∀ b, (((e.setS nx (some ⟨w.heap.size, 0, none⟩, l.length, l.length) fun _ => False).setS (nx + 1) (some ⟨w.heap.size, 0, none⟩, 0, 0) fun _ => False).slv nx).ownBlock = some b → b = w.heap.size := by
            intro b hb
            rw [Env.slv, h0] at hb
            simp only [Value.ownBlock, Option.some.injEq] at hb
            exact hb.symm
          have key : ∀ id ob, hlook [(nx, HO.row [.int k] t (numRows l)), (nx + 1, HO.elem nx 0 1)] id = some ob → (id = nx ∧ ob = .row [.int k] t (numRows l)) ∨ (id = nx + 1 ∧ ob = .elem nx 0 1) := by
            intro id ob h
            have := hlook_mem h
            simpa using this
          have := hK ((e.setS nx (some ⟨w.heap.size, 0, none⟩, l.length, l.length) fun _ => False).setS (nx + 1) (some ⟨w.heap.size, 0, none⟩, 0, 0) fun _ => False) (w.alloc (.cells (l.map (Value.int k)).toArray t))
            ⟨fun id hid => (Env.setS_same (by simp only at hid; omega)).trans (Env.setS_same (by simp only at hid; omega)), rfl, rfl, rfl, by simp, fun k hk _ => Below.heap_alloc _ _ _ hk, ⟨fun id ob hob => ?_, fun id ob hob id' ob' hob' hne b hb => ?_⟩, fun id ob b hob hf => ?_, fun id ob b hob hf => ?_⟩
          · simpa [RV.den, SV.den, CV.den, Env.blk, Env.off, h1] using this
          · rcases key id ob hob with ⟨rfl, rfl⟩ | ⟨rfl, rfl⟩
            · refine ⟨⟨0, l.map (Value.int k), ?_, fun i hi j s hs => ?_⟩, fun b hb => by rw [hφ] at hb; exact False.elim hb⟩
              · rw [Env.slv, h0, hrl]
                refine ⟨by simp, .inr ⟨w.heap.size, l.length, _, rfl, Nat.zero_le _, heap_alloc_new w _, Nat.le_refl _, by simp only [maxLen]; omega, by simp, by simp; exact List.take_of_length_le (by simp)⟩⟩
              · rw [hrl] at hi
                cases j with
                | zero =>
                  cases hs
                  refine ⟨.int k (l.getD i 0), ?_, ?_⟩
                  · simp [List.getD_eq_getElem?_getD, hi]
                  · rw [numRows_rd hi]; rfl
                | succ j => simp at hs
            · refine ⟨⟨⟨w.heap.size, 0, none⟩, by rw [h0], rfl, by rw [h1]⟩, by rw [h0]; simp only; omega⟩
          · rcases key id ob hob with ⟨rfl, rfl⟩ | ⟨rfl, rfl⟩
            · rcases key id' ob' hob' with ⟨rfl, rfl⟩ | ⟨rfl, rfl⟩
              · exact absurd rfl hne
              · exact fun h => h
            · exact False.elim hb
          · rcases key id ob hob with ⟨rfl, rfl⟩ | ⟨rfl, rfl⟩
            · left; rw [hown b hf]; exact Nat.le_refl _
            · exact False.elim hf
          · rcases key id ob hob with ⟨rfl, rfl⟩ | ⟨rfl, rfl⟩
            · rcases hf with hf | hf
              · left; rw [hown b hf]; exact Nat.le_refl _
              · rw [hφ] at hf; exact False.elim hf
            · exact False.elim hf
    · cases h
  · cases h
/-- The address of an array's number, by an open number. -/
def opIndexA (P : Program) (get : Operand → RV) (hp : Hp) (nx : Nat) (t : TypeId) (x i : Operand) : Option (Bool × Out) :=
  match get x, intOfRV (get i), P.underlying t with
  | .sv (.one (.eptr q 0)), some j, some (.array len e) => (match hlook hp q, sizeP P e with
    | some (.elem id i0 wd), some 1 => (match hlook hp id with
      | some (.row sh t' l) => bif Nat.beq wd 1 && Nat.beq t' t && Nat.beq i0 0 then some (decide (0 ≤ j ∧ j < len ∧ j < l.length), ⟨.sv (.one (.eptr nx 0)), [(nx, .elem id j.toNat 1)], nx + 1, []⟩) else none
      | _ => none)
    | _, _ => none)
  | _, _, _ => none
theorem opIndexA_ok {P : Program} {o : Oper} {get : Operand → RV} {hp : Hp} {nx : Nat} {out : Out} {t : TypeId} {x i : Operand} {b : Bool} (hwf : WfOp get o hp nx) (ho : o.op = .indexAddr t x i) (h : opIndexA P get hp nx t x i = some (b, out)) (hb : b = true) : OpOk P o get hp nx out := by
  unfold opIndexA at h
  split at h
  · rename_i q j len el hg hj hu
    split at h
    · rename_i id i0 wd hq hs
      split at h
      · rename_i sh t' l hl
        cases hbq : (Nat.beq wd 1 && Nat.beq t' t && Nat.beq i0 0) with
        | false => rw [hbq] at h; cases h
        | true =>
          rw [hbq] at h
          simp only [cond_true, Option.some.injEq, Prod.mk.injEq] at h
          obtain ⟨rfl, rfl⟩ := h
          simp only [Bool.and_eq_true] at hbq
          obtain rfl := Nat.eq_of_beq_eq_true hbq.1.1
          obtain rfl := Nat.eq_of_beq_eq_true hbq.2
          simp only [decide_eq_true_eq] at hb
          obtain ⟨hj0, hjn, hjl⟩ := hb
          intro e a w hx hsat K Q hK
          have hx1 := hx x (by rw [ho]; simp [Op.operands])
          have hx2 := hx i (by rw [ho]; simp [Op.operands])
          obtain ⟨k2, hk2⟩ := intOfRV_spec hj e
          rw [hg] at hx1
          rw [hk2] at hx2
          obtain ⟨⟨ad, ha, hsp, hqa⟩, hi0⟩ := hsat.holds _ _ hq
          obtain ⟨d, a', cap, hv, h1, h2, h0, hc⟩ := HO.rowsAt (hsat.holds _ _ hl) rfl
          have hlen : (e.σ id).2.1 = l.length := by
            simp only [Env.slv, Value.slice.injEq] at hv
            exact hv.2.1
          have hid := (hwf.hp id _ hl).1
          obtain ⟨bk, of, sp⟩ := ad
          simp only at hsp
          subst hsp
          have hx1' : a.eval x = .pointer (some ⟨bk, of, none⟩) := by
            rw [hx1]; simp [RV.den, SV.den, CV.den, Env.blk, Env.off, hqa]
          refine wp_value (w' := w) (v := .pointer (some ⟨bk, of + j.toNat * 1, none⟩)) ?_ ?_
          · simp only [execOp, ho, hx1', hx2, Instr.indexAt, asIntOf, Sem.run_bind, run_underlying hu, Result.andThen_ok, Instr.sureAddr, Sem.run_pure]
            simp only [hj0, hjn, and_self, if_true, Sem.run_bind, sizeP_run hs, Result.andThen_ok, Sem.run_pure, addr_add]
          · have := hK (e.setS nx (some ⟨bk, of + j.toNat * 1, none⟩, 0, 0) fun _ => False) w (PostOp.view (fun id' h => Env.setS_same (by omega)) fun id' o' h => ?_)
            · simpa [RV.den, SV.den, CV.den, Env.blk, Env.off, Env.setS_σ] using this
            · obtain ⟨rfl, rfl⟩ := hlook_one h
              have hne : id ≠ id' := by omega
              refine ⟨⟨⟨⟨bk, of, none⟩, ?_, rfl, ?_⟩, ?_⟩, fun _ h => h, fun _ h => False.elim h⟩
              · rw [(Env.setS_same (e := e) (i := id) hne).2.1]; exact ha
              · rw [Env.setS_σ]
              · rw [(Env.setS_same (e := e) (i := id) hne).2.1, hlen]
                omega
      · cases h
    · cases h
  · cases h
def sizeIs (P : Program) (t : TypeId) (n : Nat) : Bool := match sizeP P t with
  | some m => Nat.beq m n
  | none => false
/-- A whole array of numbers. -/
def loadTab (P : Program) (hp : Hp) (q : Nat) (t : TypeId) : Option (Bool × SV) := match hlook hp q with
  | some (.elem id i0 wd) => (match hlook hp id, isAggP P t, P.underlying t with
    | some (.row [.int k] t' l), some true, some (.array n _) => bif Nat.beq wd 1 && Nat.beq t' t && Nat.beq i0 0 && sizeIs P t n then some (decide (n ≤ l.length), .one (.tab k n l)) else none
    | _, _, _ => none)
  | _ => none
def opLoadA (P : Program) (get : Operand → RV) (hp : Hp) (nx : Nat) (t : TypeId) (x : Operand) : Option (Bool × Out) :=
  match get x with
  | .sv (.one (.eptr q 0)) => (match loadTab P hp q t with
    | some (b, s) => some (b, .val nx (.sv s))
    | none => none)
  | _ => none
theorem sizeIs_spec {P : Program} {t : TypeId} {n : Nat} (h : sizeIs P t n = true) : sizeP P t = some n := by
  unfold sizeIs at h
  split at h
  · rename_i m hm; rw [hm, Nat.eq_of_beq_eq_true h]
  · cases h
theorem tabA_get {k : IntKind} {n : Nat} {l : List (List Ct)} {j : Nat} (hj : j < n) : (tabA k n l)[j]? = some (.int k (rd l j 0).int) := by
  simp [tabA, hj]
theorem loadTab_ok {P : Program} {hp : Hp} {q : Nat} {t : TypeId} {b : Bool} {s : SV} (h : loadTab P hp q t = some (b, s)) (hb : b = true) {e : Env} {w : World} (hsat : Sat e (hlook hp) w) :
    ∃ a, (CV.eptr q 0).den e = .pointer (some a) ∧ (loadVar t a).run P w = .ok (s.den e) w ∧ s.ids = [] := by
  unfold loadTab at h
  split at h
  · rename_i id i0 wd hq
    split at h
    · rename_i k t' l n _ hl ha hn0
      cases hbq : (Nat.beq wd 1 && Nat.beq t' t && Nat.beq i0 0 && sizeIs P t n) with
      | false => rw [hbq] at h; cases h
      | true =>
        rw [hbq] at h
        simp only [cond_true, Option.some.injEq, Prod.mk.injEq] at h
        obtain ⟨rfl, rfl⟩ := h
        simp only [Bool.and_eq_true] at hbq
        obtain rfl := Nat.eq_of_beq_eq_true hbq.1.1.1
        obtain rfl := Nat.eq_of_beq_eq_true hbq.1.2
        have hn := sizeIs_spec hbq.2
        have hb := of_decide_eq_true hb
        obtain ⟨⟨ad, had, hsp, hqa⟩, hi0⟩ := hsat.holds _ _ hq
        obtain ⟨d, a', cap, hv, h1, h2, h0, hc⟩ := HO.rowsAt (hsat.holds _ _ hl) rfl
        simp only [Env.slv, Value.slice.injEq] at hv
        obtain ⟨g1, g2, g3⟩ := hv
        obtain ⟨bk, of, sp⟩ := ad
        simp only at hsp
        subst hsp
        refine ⟨⟨bk, of, none⟩, by simp [CV.den, Env.blk, Env.off, hqa], ?_, rfl⟩
        have := run_loadCells_list (P := P) w ⟨bk, of, none⟩ (tabA k n l).toList (fun j v hj => by
          rw [addr_add]
          obtain ⟨hlt, _⟩ := List.getElem?_eq_some_iff.1 hj
          simp only [tabA, List.length_map, List.length_range] at hlt
          have hj' : (tabA k n l)[j]? = some v := by simpa using hj
          rw [tabA_get hlt] at hj'
          cases hj'
          obtain ⟨bk', of', e1, _, hcell⟩ := hc j (show j < l.length by omega)
          rw [← g1, had] at e1
          cases e1
          obtain ⟨u, hu, hh⟩ := hcell 0 _ rfl
          have hh : u = .int k (rd l j 0).int := by cases d <;> exact hh
          subst hh
          simpa using hu)
        have hlen : (tabA k n l).toList.length = n := by simp [tabA]
        rw [hlen] at this
        simp only [loadVar, Sem.run_bind, isAgg_run ha, if_true, sizeP_run hn, this, Result.andThen_ok, Sem.run_pure]
        rfl
    · cases h
  · cases h
theorem opLoadA_ok {P : Program} {o : Oper} {get : Operand → RV} {hp : Hp} {nx : Nat} {out : Out} {t : TypeId} {x : Operand} {b : Bool} (ho : o.op = .load t x) (h : opLoadA P get hp nx t x = some (b, out)) (hb : b = true) : OpOk P o get hp nx out := by
  unfold opLoadA at h
  split at h
  · rename_i q hg
    split at h
    · rename_i b' s hs
      cases h
      refine OpOk.val fun e a w hx hsat => ?_
      have hx1 := hx x (by rw [ho]; simp [Op.operands])
      rw [hg] at hx1
      obtain ⟨ad, g1, g2, _⟩ := loadTab_ok hs hb hsat
      have hx1' : a.eval x = .pointer (some ad) := by rw [hx1]; exact g1
      simp only [execOp, ho, Instr.loadAt, hx1', Instr.sureAddr, Sem.run_bind, Sem.run_pure, Result.andThen_ok, g2]
      rfl
    · cases h
  · cases h
/-- An array that is a value. -/
def tabOf : RV → Option (IntKind × Nat × List (List Ct))
  | .sv (.one (.tab k n l)) => some (k, n, l)
  | .sv (.agg (.val b0 (.int k n0) :: cs)) => (match intsOf k (.val b0 (.int k n0) :: cs) with
    | some l => bif Nat.ble 16 l.length then some (k, l.length, numRows l) else none
    | none => none)
  | _ => none
theorem tabOf_den {r : RV} {k : IntKind} {n : Nat} {l : List (List Ct)} (h : tabOf r = some (k, n, l)) (e : Env) : r.den e = tabV k n l := by
  unfold tabOf at h
  split at h
  · cases h; rfl
  · rename_i b0 k' n0 cs
    split at h
    · rename_i l' hl
      cases hb : Nat.ble 16 l'.length with
      | false => rw [hb] at h; cases h
      | true =>
        rw [hb] at h
        cases h
        have := intsOf_cells (e := e) hl
        simp only [RV.den, SV.den, this, tabV, tabA]
        congr 2
        refine List.ext_getElem? fun i => ?_
        simp only [List.getElem?_map]
        by_cases hi : i < l'.length
        · rw [List.getElem?_range hi]
          simp only [Option.map_some, numRows_rd hi]
          simp [List.getD_eq_getElem?_getD, hi, Ct.int]
        · rw [List.getElem?_eq_none (by omega), List.getElem?_eq_none (by simp; omega)]
          rfl
    · cases h
  · cases h
/-- A whole array is stored. -/
def opStoreA (P : Program) (get : Operand → RV) (hp : Hp) (nx : Nat) (t : TypeId) (x y : Operand) : Option (Bool × Out) :=
  match get x, tabOf (get y) with
  | .sv (.one (.eptr q 0)), some (k, n, l) => (match hlook hp q with
    | some (.elem id i0 wd) => (match hlook hp id with
      | some (.row [.int k'] t' l0) => if k' = k then (bif Nat.beq wd 1 && Nat.beq t' t && Nat.beq i0 0 && sizeIs P t n then some (decide (l0.length = n ∧ l.length = n), ⟨RV.und, [(id, .row [.int k'] t' l)], nx, [id]⟩) else none) else none
      | _ => none)
    | _ => none)
  | _, _ => none
theorem opStoreA_ok {P : Program} {o : Oper} {get : Operand → RV} {hp : Hp} {nx : Nat} {out : Out} {t : TypeId} {x y : Operand} {b : Bool} (ho : o.op = .store t x y) (h : opStoreA P get hp nx t x y = some (b, out)) (hb : b = true) : OpOk P o get hp nx out := by
  unfold opStoreA at h
  split at h
  · rename_i q k n l hgx hgy
    split at h
    · rename_i id i0 wd hq
      split at h
      · rename_i k' t' l0 hl
        split at h
        · rename_i hk
          subst hk
          cases hbq : (Nat.beq wd 1 && Nat.beq t' t && Nat.beq i0 0 && sizeIs P t n) with
          | false => rw [hbq] at h; cases h
          | true =>
            rw [hbq] at h
            simp only [cond_true, Option.some.injEq, Prod.mk.injEq] at h
            obtain ⟨rfl, rfl⟩ := h
            simp only [Bool.and_eq_true] at hbq
            obtain rfl := Nat.eq_of_beq_eq_true hbq.1.1.1
            obtain rfl := Nat.eq_of_beq_eq_true hbq.1.1.2
            obtain rfl := Nat.eq_of_beq_eq_true hbq.1.2
            have hn := sizeIs_spec hbq.2
            obtain ⟨hb1, hb2⟩ := of_decide_eq_true hb
            intro e a w hx hsat K Q hK
            have hx1 := hx x (by rw [ho]; simp [Op.operands])
            have hx2 := hx y (by rw [ho]; simp [Op.operands])
            rw [hgx] at hx1
            rw [tabOf_den hgy e] at hx2
            obtain ⟨⟨a0, ha0, hsp, hqa⟩, hi⟩ := hsat.holds _ _ hq
            obtain ⟨⟨d, xs, hown, hc⟩, hφ⟩ := hsat.holds _ _ hl
            rcases hown.2 with ⟨hv, _⟩ | ⟨g, cap, cur, hv, _, hg, hnc, hcm, hcs, htake⟩
            · simp only [Env.slv, Value.slice.injEq] at hv
              rw [hv.1] at ha0; cases ha0
            · have hv' := hv
              simp only [Env.slv, Value.slice.injEq] at hv
              rw [hv.1] at ha0
              cases ha0
              have hsh1 : [Sh.int k'].length = 1 := rfl
              have htl : (tabA k' n l).toList.length = n := by simp [tabA]
              rw [hsh1] at hcs
              have hone : ∀ v ∈ (tabA k' n l).toList, v.oneCell' = true := by
                intro v hv
                simp only [tabA, List.mem_map] at hv
                obtain ⟨j, _, rfl⟩ := hv
                rfl
              have hrun := run_storeCells_at (P := P) g 0 t' (tabA k' n l).toList 0 _ w hg (by simp only [htl]; omega) hone
              simp only [Nat.add_zero, htl, List.take_zero, List.nil_append, Nat.zero_add] at hrun
              refine wp_skipped (w' := w.setRow g ((tabA k' n l).toList ++ cur.toList.drop n).toArray) ?_ ?_
              · have hx1' : a.eval x = .pointer (some ⟨g, 0, none⟩) := by rw [hx1]; simp [RV.den, SV.den, CV.den, Env.blk, Env.off, hqa]
                have hts : (tabA k' n l).size = n := by simpa using htl
                simp only [execOp, ho, Instr.storeAt, hx1', hx2, Instr.sureAddr, Sem.run_bind, Sem.run_pure, Result.andThen_ok, storeVar, tabV, Value.cells, sizeP_run hn, hts, ne_eq, not_true_eq_false, if_false]
                have e9 : (tabA k' n l) = (tabA k' n l).toList.toArray := by simp
                rw [e9, hrun]
                simp only [Result.andThen_ok]
              · have hblk : (e.slv id).ownBlock = some g := by rw [hv']; rfl
                refine hK e _ ⟨fun _ _ => .refl _ _, rfl, rfl, rfl, by simp [World.setRow], fun k hk hne => setRow_other _ _ _ _ fun h' => hne id (by simp) _ hl (by subst h'; exact hblk), ⟨fun id' o' ho' => ?_, fun id1 o1 ho1 id2 o2 ho2 hne => absurd ((hlook_one ho1).1.trans (hlook_one ho2).1.symm) hne⟩, fun id' o' b ho' hf => ?_, fun id' o' b ho' hf => ?_⟩
                · obtain ⟨rfl, rfl⟩ := hlook_one ho'
                  refine ⟨⟨0, (tabA k' n l).toList, ?_, fun i' hi' j s' hs' => ?_⟩, fun b hb => ⟨by have := (hφ b hb).1; simpa [World.setRow] using this, (hφ b hb).2⟩⟩
                  · refine ⟨by rw [htl, hsh1]; omega, .inr ⟨g, cap, _, by rw [hv', hb1, hb2], Nat.zero_le _, setRow_heap w g cur _ t' (0, 0) hg, by omega, hcm, ?_, ?_⟩⟩
                    · simp only [hsh1, List.size_toArray, List.length_append, htl, List.length_drop, Array.length_toList]; omega
                    · rw [hsh1, hb2, Nat.mul_one]
                      have : ((tabA k' n l).toList ++ cur.toList.drop n).toArray.toList = (tabA k' n l).toList ++ cur.toList.drop n := rfl
                      rw [this, List.take_append_of_le_length (by omega), List.take_of_length_le (by omega)]
                  · cases j with
                    | zero =>
                      cases hs'
                      refine ⟨.int k' (rd l i' 0).int, ?_, rfl⟩
                      have := tabA_get (k := k') (l := l) (show i' < n by omega)
                      simpa [hsh1] using this
                    | succ j => simp at hs'
                · obtain ⟨rfl, rfl⟩ := hlook_one ho'
                  exact .inr ⟨_, by simp, _, hl, hf⟩
                · obtain ⟨rfl, rfl⟩ := hlook_one ho'
                  rcases hf with hf | hf
                  · exact .inr (.inl ⟨_, by simp, _, hl, hf⟩)
                  · exact .inr (.inr ⟨_, _, hl, .inr hf, (hφ b hf).2⟩)
        · cases h
      · cases h
    · cases h
  · cases h
/-- A number of an array that is a value. -/
def opIndexT (P : Program) (get : Operand → RV) (nx : Nat) (t : TypeId) (x i : Operand) : Option (Bool × Out) :=
  match get x, intOfRV (get i), P.underlying t with
  | .sv (.one (.tab k n l)), some j, some (.array len e) => (match sizeP P e, isAggP P e with
    | some 1, some false => bif Nat.beq n len then some (decide (0 ≤ j ∧ j < len), .val nx (.sv (.one (.val false (.int k (rd l j.toNat 0).int))))) else none
    | _, _ => none)
  | _, _, _ => none
theorem opIndexT_ok {P : Program} {o : Oper} {get : Operand → RV} {hp : Hp} {nx : Nat} {out : Out} {t : TypeId} {x i : Operand} {b : Bool} (ho : o.op = .index t x i) (h : opIndexT P get nx t x i = some (b, out)) (hb : b = true) : OpOk P o get hp nx out := by
  unfold opIndexT at h
  split at h
  · rename_i k n l j len el hg hi hu
    split at h
    · rename_i hs ha
      cases hq : Nat.beq n len with
      | false => rw [hq] at h; cases h
      | true =>
        rw [hq] at h
        obtain rfl := Nat.eq_of_beq_eq_true hq
        simp only [cond_true, Option.some.injEq, Prod.mk.injEq] at h
        obtain ⟨rfl, rfl⟩ := h
        have hb := of_decide_eq_true hb
        have hld : ldCells P el ((List.range n).map fun j => CV.val false (.int k (rd l j 0).int)) (j.toNat * 1) = some (.one (.val false (.int k (rd l j.toNat 0).int))) := by
          unfold ldCells
          rw [ha, Nat.mul_one]
          simp only [List.getElem?_map, List.getElem?_range (show j.toNat < n by omega), Option.map_some]
        refine OpOk.val fun e a w hx hsat => ?_
        have hx1 := hx x (by rw [ho]; simp [Op.operands])
        have hx2 := hx i (by rw [ho]; simp [Op.operands])
        obtain ⟨k2, hk2⟩ := intOfRV_spec hi e
        rw [hg] at hx1
        rw [hk2] at hx2
        have e9 : tabA k n l = (((List.range n).map fun j => CV.val false (.int k (rd l j 0).int)).map (CV.den e)).toArray := by
          simp only [tabA, List.map_map]; rfl
        simp only [execOp, ho, hx1, hx2, RV.den, SV.den, CV.den, tabV, e9, Instr.index, asIntOf, Sem.run_bind, run_underlying hu, Result.andThen_ok, Sem.run_pure]
        simp only [hb, and_self, if_true, Sem.run_bind, sizeP_run hs, Result.andThen_ok]
        have hp := ldCells_part (e := e) w hld
        rw [hp]
        rfl
    · cases h
  · cases h
/-- A new variable that holds an array. -/
def opBoxT (P : Program) (get : Operand → RV) (nx : Nat) (t : TypeId) (x : Operand) : Option (Bool × Out) :=
  match get x with
  | .sv (.one (.tab k n l)) => bif Nat.ble 1 n && Nat.ble n 65536 then some (decide (l.length = n), ⟨.sv (.one (.eptr (nx + 1) 0)), [(nx, .row [.int k] t l), (nx + 1, .elem nx 0 1)], nx + 2, []⟩) else none
  | _ => none
/-- An array of noughts. -/
def opBuildT (P : Program) (get : Operand → RV) (nx : Nat) (t : TypeId) (parts : Array (Nat × Operand)) : Option Out :=
  match parts.toList, P.underlying t with
  | [], some (.array len _) => bif Nat.ble 16 len then (match opBuild P get nx t parts with
    | some out => (match tabOf out.v, out.up, out.W with
      | some (k, _, l), [], [] => bif Nat.beq l.length len && l.all (fun r => (r.getD 0 (.i 0)).int == 0) then some (.val out.nx (.sv (.one (.tab k len (List.replicate len [.i 0]))))) else none
      | _, _, _ => none)
    | none => none) else none
  | _, _ => none
theorem tabOf_length {r : RV} {k : IntKind} {n : Nat} {cs : List CV} {l : List (List Ct)} (h : tabOf r = some (k, n, l)) (hr : r = .sv (.agg cs)) : l.length = n := by
  subst hr
  unfold tabOf at h
  split at h
  · rename_i heq; cases heq
  · split at h
    · rename_i l' hl
      cases hb : Nat.ble 16 l'.length with
      | false => rw [hb] at h; cases h
      | true => rw [hb] at h; cases h; simp [numRows]
    · cases h
  · cases h
theorem opBuildT_ok {P : Program} {o : Oper} {get : Operand → RV} {hp : Hp} {nx : Nat} {out : Out} {t : TypeId} {parts : Array (Nat × Operand)} (ho : o.op = .build t parts) (h : opBuildT P get nx t parts = some out) : OpOk P o get hp nx out := by
  unfold opBuildT at h
  split at h
  · rename_i len e hpn hu
    cases hb0 : Nat.ble 16 len with
    | false => rw [hb0] at h; cases h
    | true =>
    rw [hb0] at h
    simp only [cond_true] at h
    split at h
    · rename_i out0 hout
      have h1 := opBuild_ok (hp := hp) ho hout
      split at h
      · rename_i k n l hv hup hW
        cases hb : (Nat.beq l.length len && l.all (fun r => (r.getD 0 (.i 0)).int == 0)) with
        | false => rw [hb] at h; cases h
        | true =>
          rw [hb] at h
          cases h
          simp only [Bool.and_eq_true] at hb
          have hlen := Nat.eq_of_beq_eq_true hb.1
          have hz := List.all_eq_true.1 hb.2
          have hagg : ∃ cs, out0.v = .sv (.agg cs) := by
            unfold opBuild at hout
            split at hout
            · split at hout
              · cases hout; exact ⟨_, rfl⟩
              · cases hout
            · cases hout
          obtain ⟨cs, hcs⟩ := hagg
          have hn := tabOf_length hv hcs
          obtain ⟨v, up, nx1, W⟩ := out0
          simp only at hv hup hW
          subst hup hW
          intro e a w hx hs K Q hK
          refine h1 e a w hx hs K Q fun e' w' hp' => ?_
          have h2 := hK e' w' ⟨hp'.agree, hp'.os, hp'.tape, hp'.output, hp'.size, hp'.fr, ⟨fun id o h => by simp [Out.val, hlook] at h, fun id o h => by simp [Out.val, hlook] at h⟩, fun id o b h => by simp [Out.val, hlook] at h, fun id o b h => by simp [Out.val, hlook] at h⟩
          have h3 : (Out.val nx1 (.sv (.one (.tab k len (List.replicate len [.i 0]))))).v.den e' = v.den e' := by
            rw [tabOf_den hv e']
            change tabV k len _ = _
            unfold tabV tabA
            rw [← hn, hlen]
            congr 2
            refine List.map_congr_left fun j hj => ?_
            have hj := List.mem_range.1 hj
            have h4 := hz (l[j]'(by omega)) (List.getElem_mem _)
            have h5 : (rd l j 0).int = 0 := by
              have : rd l j 0 = (l[j]'(by omega)).getD 0 (.i 0) := by simp [rd, List.getD_eq_getElem?_getD, show j < l.length by omega]
              rw [this]; exact eq_of_beq h4
            have h6 : (rd (List.replicate len [Ct.i 0]) j 0).int = 0 := by simp [rd, List.getD_eq_getElem?_getD, hj, Ct.int]
            rw [h5, h6]
          rw [h3] at h2
          exact h2
      · cases h
    · cases h
  · cases h
/-- Are they the same? -/
def tabEq (n : Nat) (l l' : List (List Ct)) : Bool := (List.range' 0 n).all fun j => (rd l j 0).int == (rd l' j 0).int
def opEqT (P : Program) (get : Operand → RV) (nx : Nat) (op : BinOp) (t : TypeId) (x y : Operand) : Option Out :=
  match tabOf (get x), tabOf (get y), P.underlying t with
  | some (k, n, l), some (k', n', l'), some (.array len e) => (match sizeP P e, isAggP P e, P.underlying e, op with
    | some 1, some false, some (.int _), .eql => if k = k' then (bif Nat.beq n len && Nat.beq n' len && !P.eqGuardType P.depth t then some (.val nx (.sv (.one (.val false (.bool (tabEq len l l')))))) else none) else none
    | some 1, some false, some (.int _), .neq => if k = k' then (bif Nat.beq n len && Nat.beq n' len && !P.eqGuardType P.depth t then some (.val nx (.sv (.one (.val false (.bool (!tabEq len l l')))))) else none) else none
    | _, _, _, _ => none)
  | _, _, _ => none
theorem run_eqTab {P : Program} {e : TypeId} {k k1 : IntKind} {n : Nat} {l l' : List (List Ct)} (he : P.underlying e = some (.int k1)) (ha : isAggP P e = some false) (D : Nat) (w : World) : ∀ (m i : Nat), i + m ≤ n →
    (eqRange (D + 1) e 1 (tabA k n l) (tabA k n l') (List.range' i m)).run P w = .ok ((List.range' i m).all fun j => (rd l j 0).int == (rd l' j 0).int) w := by
  have hpart : ∀ (l : List (List Ct)) j, j < n → (part e (tabA k n l) (j * 1)).run P w = .ok (.int k (rd l j 0).int) w := by
    intro l j hj
    have hld : ldCells P e ((List.range n).map fun j => CV.val false (.int k (rd l j 0).int)) (j * 1) = some (.one (.val false (.int k (rd l j 0).int))) := by
      unfold ldCells
      rw [ha, Nat.mul_one]
      simp only [List.getElem?_map, List.getElem?_range hj, Option.map_some]
    have e9 : tabA k n l = (((List.range n).map fun j => CV.val false (.int k (rd l j 0).int)).map (CV.den env0)).toArray := by
      simp only [tabA, List.map_map]; rfl
    rw [e9]
    exact ldCells_part (e := env0) w hld
  intro m
  induction m with
  | zero => intro i _; simp [eqRange]
  | succ m ih =>
    intro i him
    simp only [List.range'_succ, eqRange, Sem.run_bind, hpart l i (by omega), hpart l' i (by omega), Result.andThen_ok, run_equalIn_int w D e k k1 _ _ he, List.all_cons]
    cases hq : ((rd l i 0).int == (rd l' i 0).int)
    · simp
    · simp only [Bool.not_true, Bool.false_eq_true, if_false, Bool.true_and]
      exact ih (i + 1) (by omega)
theorem opEqT_ok {P : Program} {o : Oper} {get : Operand → RV} {hp : Hp} {nx : Nat} {out : Out} {op : BinOp} {t yt : TypeId} {x y : Operand} (ho : o.op = .binOp op t x y yt) (h : opEqT P get nx op t x y = some out) : OpOk P o get hp nx out := by
  unfold opEqT at h
  split at h
  · rename_i k n l k' n' l' len e hgx hgy hu
    have main : ∀ k1, P.underlying e = some (.int k1) → isAggP P e = some false → sizeP P e = some 1 → k = k' → n = len → n' = len → ∀ w, (Op.equalIn 10000 t (tabV k n l) (tabV k' n' l')).run P w = .ok (tabEq len l l') w := by
      rintro k1 he ha hs rfl rfl rfl w
      rw [tabV, tabV, run_equalIn_array w 9999 t e n' 1 _ _ hu hs]
      exact run_eqTab he ha 9998 w n' 0 (by omega)
    split at h
    · rename_i k1 hs ha he
      split at h
      · rename_i hk
        cases hq : (Nat.beq n len && Nat.beq n' len && !P.eqGuardType P.depth t) with
        | false => rw [hq] at h; cases h
        | true =>
          rw [hq] at h
          cases h
          simp only [Bool.and_eq_true, Bool.not_eq_true'] at hq
          refine OpOk.val fun en a w hx hsat => ?_
          have hx1 := hx x (by rw [ho]; simp [Op.operands])
          have hx2 := hx y (by rw [ho]; simp [Op.operands])
          rw [tabOf_den hgx en] at hx1
          rw [tabOf_den hgy en] at hx2
          have h1 := main k1 he ha hs hk (Nat.eq_of_beq_eq_true hq.1.1) (Nat.eq_of_beq_eq_true hq.1.2) w
          unfold tabV at hx1 hx2 h1
          simp only [execOp, ho, hx1, hx2, Sem.run_bind, run_eqGuard_agg w _ t x y _ _ hq.2, Result.andThen_ok, run_eql_struct, h1, Sem.run_pure]
          rfl
      · cases h
    · rename_i k1 hs ha he
      split at h
      · rename_i hk
        cases hq : (Nat.beq n len && Nat.beq n' len && !P.eqGuardType P.depth t) with
        | false => rw [hq] at h; cases h
        | true =>
          rw [hq] at h
          cases h
          simp only [Bool.and_eq_true, Bool.not_eq_true'] at hq
          refine OpOk.val fun en a w hx hsat => ?_
          have hx1 := hx x (by rw [ho]; simp [Op.operands])
          have hx2 := hx y (by rw [ho]; simp [Op.operands])
          rw [tabOf_den hgx en] at hx1
          rw [tabOf_den hgy en] at hx2
          have h1 := main k1 he ha hs hk (Nat.eq_of_beq_eq_true hq.1.1) (Nat.eq_of_beq_eq_true hq.1.2) w
          unfold tabV at hx1 hx2 h1
          simp only [execOp, ho, hx1, hx2, Sem.run_bind, run_eqGuard_agg w _ t x y _ _ hq.2, Result.andThen_ok, run_neq_struct, h1, Sem.run_pure]
          rfl
      · cases h
    · cases h
  · cases h
/-- Where a slice of one's own begins. -/
def opSlData (get : Operand → RV) (hp : Hp) (nx : Nat) (x : Operand) : Option (Bool × Out) :=
  match get x with
  | .sv (.one (.ext id)) => (match hlook hp id with
    | some (.row sh t l) => some (decide (0 < l.length), ⟨.sv (.one (.eptr nx 0)), [(nx, .elem id 0 sh.length)], nx + 1, []⟩)
    | _ => none)
  | _ => none
theorem opSlData_ok {P : Program} {o : Oper} {get : Operand → RV} {hp : Hp} {nx : Nat} {out : Out} {x : Operand} {c : Call} {b : Bool} (hwf : WfOp get o hp nx) (ho : o.op = .call c) (hc : c.callee = .builtin .unsafeSliceData) (ha : c.args.toList = [x]) (h : opSlData get hp nx x = some (b, out)) (hb : b = true) : OpOk P o get hp nx out := by
  have ha' : c.args = #[x] := by apply Array.ext'; simpa using ha
  have hmem : x ∈ o.op.operands := by rw [ho]; simp [Op.operands, Call.operands, ha']
  unfold opSlData at h
  split at h
  · rename_i id hg
    split at h
    · rename_i sh t l hl
      simp only [Option.some.injEq, Prod.mk.injEq] at h
      obtain ⟨rfl, rfl⟩ := h
      have hb := of_decide_eq_true hb
      intro e a w hx hsat K Q hK
      have hx1 := hx x hmem
      rw [hg] at hx1
      obtain ⟨⟨d, xs, hown, hcc⟩, hφ⟩ := hsat.holds _ _ hl
      obtain ⟨hxl, hn | ⟨g, cap, cur, hv, _, hgc, hnc, hcm, _⟩⟩ := hown
      · omega
      have hx1' : a.eval x = .slice (some ⟨g, 0, none⟩) l.length cap := by rw [hx1]; exact hv
      have hσ : e.σ id = (some ⟨g, 0, none⟩, l.length, cap) := by
        simp only [Env.slv, Value.slice.injEq] at hv
        obtain ⟨g1, g2, g3⟩ := hv
        ext1
        · exact g1
        · ext1
          · exact g2
          · exact g3
      have hrun := Go.Lib.run_unsafeSliceData_row (P := P) w c.argTypes o.type ⟨g, 0, none⟩ l.length cap (by omega)
      have hid := (hwf.hp id _ hl).1
      refine wp_value (w' := w) (v := .pointer (some ⟨g, 0, none⟩)) ?_ ?_
      · simp only [execOp, ho, resolve, hc, ha', List.map_toArray, List.map_cons, List.map_nil, hx1', Sem.run_bind, Sem.run_pure, Result.andThen_ok, invoke, builtin, hrun]
      · have := hK (e.setS nx (some ⟨g, 0, none⟩, 0, 0) fun _ => False) w (PostOp.view (fun id' h => Env.setS_same (by omega)) fun id' o' h => ?_)
        · simpa [RV.den, SV.den, CV.den, Env.blk, Env.off, Env.setS_σ] using this
        · obtain ⟨rfl, rfl⟩ := hlook_one h
          have hne : id ≠ id' := by omega
          refine ⟨⟨⟨⟨g, 0, none⟩, ?_, rfl, ?_⟩, ?_⟩, fun _ h => h, fun _ h => False.elim h⟩
          · rw [(Env.setS_same (e := e) (i := id) hne).2.1, hσ]
          · rw [Env.setS_σ]; simp
          · rw [(Env.setS_same (e := e) (i := id) hne).2.1, hσ]; exact hb
    · cases h
  · cases h
theorem run_loadInts {P : Program} {w : World} : ∀ (ns : List Int) (a : Addr) (acc : ByteArray), (∀ j n, ns[j]? = some n → w.cell? (a.add j) = some (.int .u8 n)) →
    (loadBytes a acc ns.length).run P w = .ok (ns.foldl (fun r n => r.push (UInt8.ofNat n.toNat)) acc) w := by
  intro ns
  induction ns with
  | nil => intro a acc _; simp [loadBytes]
  | cons n ns ih =>
    intro a acc h
    have h0 : w.cell? a = some (.int .u8 n) := by
      have := h 0 n rfl
      simpa [Addr.add] using this
    have h1 := ih (a.add 1) (acc.push (UInt8.ofNat n.toNat)) (fun j m hm => by
      have := h (j + 1) m (by simpa using hm)
      have e : (a.add 1).add j = a.add (j + 1) := by
        unfold Addr.add
        split <;> split <;> split <;> simp_all <;> omega
      rw [e]; exact this)
    simp only [List.length_cons, loadBytes, Sem.run_bind, run_load, h0, Result.andThen_ok, List.foldl_cons]
    exact h1
theorem freeze_other {w : World} {g n k : Nat} (h : k ≠ g) : (w.freeze ⟨g, 0, none⟩ n).heap[k]? = w.heap[k]? := by
  unfold World.freeze
  split
  · rfl
  · simp only [Array.getElem?_modify]
    rw [if_neg fun h' => h h'.symm]
theorem freeze_sz {w : World} {g n : Nat} : (w.freeze ⟨g, 0, none⟩ n).heap.size = w.heap.size := by
  unfold World.freeze
  split <;> simp
/-- A slice of bytes of one's own taken for a text; it is used up. -/
def opUStr (P : Program) (get : Operand → RV) (hp : Hp) (nx : Nat) (pt : TypeId) (x y : Operand) : Option (Bool × Out) :=
  match get x, get y, P.underlying pt with
  | .sv (.one (.eptr q 0)), .sv (.one (.val _ (.int .i64 m))), some (.pointer el) => (match hlook hp q with
    | some (.elem id i0 wd) => (match hlook hp id with
      | some (.row [.int .u8] t l) => bif Nat.beq wd 1 && Nat.beq t el && Nat.beq i0 0 && Nat.beq (P.cellsOf el) 1 then some (decide (m = l.length ∧ 0 < l.length), ⟨.sv (.one (.val false (.string (strOf l)))), [(id, .gone)], nx, [id]⟩) else none
      | _ => none)
    | _ => none)
  | _, _, _ => none
theorem opUStr_ok {P : Program} {o : Oper} {get : Operand → RV} {hp : Hp} {nx : Nat} {out : Out} {x y : Operand} {c : Call} {pt it : TypeId} {b : Bool} (ho : o.op = .call c) (hc : c.callee = .builtin .unsafeString) (ha : c.args.toList = [x, y]) (hat : c.argTypes.toList = [pt, it]) (h : opUStr P get hp nx pt x y = some (b, out)) (hb : b = true) : OpOk P o get hp nx out := by
  have ha' : c.args = #[x, y] := by apply Array.ext'; simpa using ha
  have hat' : c.argTypes = #[pt, it] := by apply Array.ext'; simpa using hat
  have hmx : x ∈ o.op.operands := by rw [ho]; simp [Op.operands, Call.operands, ha']
  have hmy : y ∈ o.op.operands := by rw [ho]; simp [Op.operands, Call.operands, ha']
  unfold opUStr at h
  split at h
  · rename_i q km m el hgx hgy hpt
    split at h
    · rename_i id i0 wd hq
      split at h
      · rename_i t l hl
        cases hbq : (Nat.beq wd 1 && Nat.beq t el && Nat.beq i0 0 && Nat.beq (P.cellsOf el) 1) with
        | false => rw [hbq] at h; cases h
        | true =>
          rw [hbq] at h
          simp only [cond_true, Option.some.injEq, Prod.mk.injEq] at h
          obtain ⟨rfl, rfl⟩ := h
          simp only [Bool.and_eq_true] at hbq
          obtain rfl := Nat.eq_of_beq_eq_true hbq.1.1.1
          obtain rfl := Nat.eq_of_beq_eq_true hbq.1.1.2
          obtain rfl := Nat.eq_of_beq_eq_true hbq.1.2
          have hce := Nat.eq_of_beq_eq_true hbq.2
          obtain ⟨rfl, hl0⟩ := of_decide_eq_true hb
          intro e a w hx hsat K Q hK
          have hx1 := hx x hmx
          have hx2 := hx y hmy
          rw [hgx] at hx1
          rw [hgy] at hx2
          obtain ⟨⟨ad, had, hsp, hqa⟩, _⟩ := hsat.holds _ _ hq
          obtain ⟨⟨d, xs, hown, hcc⟩, hφ⟩ := hsat.holds _ _ hl
          have hown' := hown
          obtain ⟨hxl, hn | ⟨g, cap, cur, hv, _, hgc, hnc, hcm, hcs, htake⟩⟩ := hown
          · omega
          have hv0 := hv
          simp only [Env.slv, Value.slice.injEq] at hv
          obtain ⟨g1, g2, g3⟩ := hv
          rw [g1] at had
          cases had
          have hx1' : a.eval x = .pointer (some ⟨g, 0, none⟩) := by
            rw [hx1]; simp [RV.den, SV.den, CV.den, Env.blk, Env.off, hqa]
          have hx2' : a.eval y = .int .i64 l.length := hx2
          have hcell : ∀ j n, (l.map fun r => (r.getD 0 (.i 0)).int)[j]? = some n → w.cell? ((⟨g, 0, none⟩ : Addr).add j) = some (.int .u8 n) := by
            intro j n hj
            rw [List.getElem?_map, Option.map_eq_some_iff] at hj
            obtain ⟨r, hr, rfl⟩ := hj
            obtain ⟨hlt, rfl⟩ := List.getElem?_eq_some_iff.1 hr
            obtain ⟨u, hu, hh⟩ := hcc j hlt 0 _ rfl
            have hh : u = .int .u8 (rd l j 0).int := by cases d <;> exact hh
            subst hh
            rw [addr_add, Nat.zero_add]
            have hrow : w.ownsRow 0 t [Sh.int .u8].length (.slice (some ⟨g, 0, none⟩) l.length cap) l.length xs := by rw [← hv0]; exact hown'
            have := hrow.cellAt j (by simpa using hlt)
            rw [this]
            have e1 : rd l j 0 = l[j].getD 0 (.i 0) := by simp [rd, List.getD_eq_getElem?_getD, hlt]
            rw [← e1]
            simpa using hu
          have hlb := run_loadInts (P := P) (w := w) (l.map fun r => (r.getD 0 (.i 0)).int) ⟨g, 0, none⟩ .empty hcell
          rw [List.length_map] at hlb
          have hsh : w.shape? g = some (t, cap) := by simp [World.shape?, hgc, hcs]
          have hlies := Go.Lib.liesAt_bytes (P := P) hce (cap / P.cellsOf t) l.length (by rw [hce]; simpa using hnc)
          have hmax : IntKind.i64.max = 9223372036854775807 := rfl
          have hcm' : cap ≤ 9223372036854775807 := by simp only [maxLen] at hcm; omega
          have h63' : ¬ (9223372036854775807 : Int) < (l.length : Int) := by omega
          have hneg : ¬ (l.length : Int) < 0 := by omega
          have hne : l.length ≠ 0 := by omega
          have hrun : (Builtin.unsafeString_ #[pt, it] o.type #[.pointer (some ⟨g, 0, none⟩), .int .i64 l.length]).run P w = .ok (.string (strOf l)) (w.freeze ⟨g, 0, none⟩ l.length) := by
            have hdef : Builtin.unsafeString_ #[pt, it] o.type #[.pointer (some ⟨g, 0, none⟩), .int .i64 l.length] =
              (do
                let n ← asInt (.int .i64 l.length)
                if n < 0 then runtimePanic (.error "unsafe.String: len out of range")
                if n > IntKind.i64.max then unsupported (.unsafePointer "String: a length above the largest int")
                if n = 0 then pure (.string .empty)
                else if ← variablesAt ⟨g, 0, none⟩ (← elemOf pt) n.toNat then do
                  let s ← loadBytes ⟨g, 0, none⟩ .empty n.toNat
                  freeze ⟨g, 0, none⟩ n.toNat
                  pure (.string s)
                else unsupported (.unsafePointer "String: not so many bytes at ptr")) := rfl
            rw [hdef]
            simp [asInt, asIntOf, hmax, h63', hneg, hne, variablesAt, hsh, elemOf, run_underlying hpt, hlies, hlb, strOf]
          refine wp_value (w' := w.freeze ⟨g, 0, none⟩ l.length) (v := .string (strOf l)) ?_ ?_
          · simp only [execOp, ho, resolve, hc, ha', hat', List.map_toArray, List.map_cons, List.map_nil, hx1', hx2', Sem.run_bind, Sem.run_pure, Result.andThen_ok, invoke, builtin, hrun]
          · refine hK e _ ⟨fun _ _ => .refl _ _, ?_, ?_, ?_, by rw [freeze_sz]; exact Nat.le_refl _, fun k hk hne => freeze_other (fun h' => hne id (by simp) _ hl ?_), ⟨fun id' o' h' => ?_, fun id' o' h' id2 o2 h2 hne b hb => ?_⟩, fun id' o' b h' hf => ?_, fun id' o' b h' hf => ?_⟩
            · unfold World.freeze; split <;> rfl
            · unfold World.freeze; split <;> rfl
            · unfold World.freeze; split <;> rfl
            · subst h'
              change (e.slv id).ownBlock = some k
              rw [hv0]; rfl
            · obtain ⟨rfl, rfl⟩ := hlook_one h'; exact trivial
            · obtain ⟨rfl, rfl⟩ := hlook_one h'; exact False.elim hb
            · obtain ⟨rfl, rfl⟩ := hlook_one h'; exact False.elim hf
            · obtain ⟨rfl, rfl⟩ := hlook_one h'; exact False.elim hf
      · cases h
    · cases h
  · cases h
/-- A new block of cells that is a row of one's own, by a pointer to its head. -/
theorem postOp_newRow {e : Env} {hp : Hp} {nx : Nat} {w : World} {t : TypeId} {s : Sh} {xs : List Value} {l : List (List Ct)} (hl : l.length = xs.length) (h0 : 0 < xs.length) (hm : xs.length ≤ 65536) (hc : ∀ i, i < l.length → ∀ (φ : Nat → Prop) (w' : World), ∃ u, xs[i]? = some u ∧ CtHolds w' φ 0 s (rd l i 0) u) :
    PostOp e ((e.setS nx (some ⟨w.heap.size, 0, none⟩, xs.length, xs.length) fun _ => False).setS (nx + 1) (some ⟨w.heap.size, 0, none⟩, 0, 0) fun _ => False) (hlook hp) nx ⟨.sv (.one (.eptr (nx + 1) 0)), [(nx, .row [s] t l), (nx + 1, .elem nx 0 1)], nx + 2, []⟩ w (w.alloc (.cells xs.toArray t)) := by
  have h0' : ((e.setS nx (some ⟨w.heap.size, 0, none⟩, xs.length, xs.length) fun _ => False).setS (nx + 1) (some ⟨w.heap.size, 0, none⟩, 0, 0) fun _ => False).σ nx = (some ⟨w.heap.size, 0, none⟩, xs.length, xs.length) := by simp [Env.setS]
  have hφ : ((e.setS nx (some ⟨w.heap.size, 0, none⟩, xs.length, xs.length) fun _ => False).setS (nx + 1) (some ⟨w.heap.size, 0, none⟩, 0, 0) fun _ => False).φ nx = fun _ => False := by simp [Env.setS]
  have h1 : ((e.setS nx (some ⟨w.heap.size, 0, none⟩, xs.length, xs.length) fun _ => False).setS (nx + 1) (some ⟨w.heap.size, 0, none⟩, 0, 0) fun _ => False).σ (nx + 1) = (some ⟨w.heap.size, 0, none⟩, 0, 0) := by simp [Env.setS]
  have hown : ∀ b, (((e.setS nx (some ⟨w.heap.size, 0, none⟩, xs.length, xs.length) fun _ => False).setS (nx + 1) (some ⟨w.heap.size, 0, none⟩, 0, 0) fun _ => False).slv nx).ownBlock = some b → b = w.heap.size := by
    intro b hb
    rw [Env.slv, h0'] at hb
    simp only [Value.ownBlock, Option.some.injEq] at hb
    exact hb.symm
  have key : ∀ id ob, hlook [(nx, HO.row [s] t l), (nx + 1, HO.elem nx 0 1)] id = some ob → (id = nx ∧ ob = .row [s] t l) ∨ (id = nx + 1 ∧ ob = .elem nx 0 1) := by
    intro id ob h
    have := hlook_mem h
    simpa using this
  refine ⟨fun id hid => (Env.setS_same (by simp only at hid; omega)).trans (Env.setS_same (by simp only at hid; omega)), rfl, rfl, rfl, by simp, fun k hk _ => Below.heap_alloc _ _ _ hk, ⟨fun id ob hob => ?_, fun id ob hob id' ob' hob' hne b hb => ?_⟩, fun id ob b hob hf => ?_, fun id ob b hob hf => ?_⟩
  · rcases key id ob hob with ⟨rfl, rfl⟩ | ⟨rfl, rfl⟩
    · refine ⟨⟨0, xs, ?_, fun i hi j s' hs => ?_⟩, fun b hb => by rw [hφ] at hb; exact False.elim hb⟩
      · rw [Env.slv, h0', hl]
        refine ⟨by simp, .inr ⟨w.heap.size, xs.length, _, rfl, Nat.zero_le _, heap_alloc_new w _, Nat.le_refl _, by simp only [maxLen]; omega, by simp, by simp⟩⟩
      · cases j with
        | zero =>
          cases hs
          obtain ⟨u, h1, h2⟩ := hc i hi _ _
          exact ⟨u, by simpa using h1, h2⟩
        | succ j => simp at hs
    · refine ⟨⟨⟨w.heap.size, 0, none⟩, by rw [h0'], rfl, by rw [h1]⟩, by rw [h0']; exact h0⟩
  · rcases key id ob hob with ⟨rfl, rfl⟩ | ⟨rfl, rfl⟩
    · rcases key id' ob' hob' with ⟨rfl, rfl⟩ | ⟨rfl, rfl⟩
      · exact absurd rfl hne
      · exact fun h => h
    · exact False.elim hb
  · rcases key id ob hob with ⟨rfl, rfl⟩ | ⟨rfl, rfl⟩
    · left; rw [hown b hf]; exact Nat.le_refl _
    · exact False.elim hf
  · rcases key id ob hob with ⟨rfl, rfl⟩ | ⟨rfl, rfl⟩
    · rcases hf with hf | hf
      · left; rw [hown b hf]; exact Nat.le_refl _
      · rw [hφ] at hf; exact False.elim hf
    · exact False.elim hf
theorem opBoxT_ok {P : Program} {o : Oper} {get : Operand → RV} {hp : Hp} {nx : Nat} {out : Out} {t : TypeId} {x : Operand} {b : Bool} (ho : o.op = .box t x) (h : opBoxT P get nx t x = some (b, out)) (hb : b = true) : OpOk P o get hp nx out := by
  unfold opBoxT at h
  split at h
  · rename_i k n l hg
    cases hq : (Nat.ble 1 n && Nat.ble n 65536) with
    | false => rw [hq] at h; cases h
    | true =>
      rw [hq] at h
      simp only [cond_true, Option.some.injEq, Prod.mk.injEq] at h
      obtain ⟨rfl, rfl⟩ := h
      simp only [Bool.and_eq_true] at hq
      have q1 := Nat.le_of_ble_eq_true hq.1
      have q2 := Nat.le_of_ble_eq_true hq.2
      have hb := of_decide_eq_true hb
      have htl : (tabA k n l).toList.length = n := by simp [tabA]
      intro e a w hx hsat K Q hK
      have hx' := hx x (by rw [ho]; simp [Op.operands])
      rw [hg] at hx'
      refine wp_value (w' := w.alloc (.cells (tabA k n l).toList.toArray t)) (v := .pointer (some ⟨w.heap.size, 0, none⟩)) ?_ ?_
      · simp only [execOp, ho, Instr.box, hx', RV.den, SV.den, CV.den, tabV, newVar, newRow, Array.toArray_toList]
        rfl
      · have := hK _ _ (postOp_newRow (e := e) (hp := hp) (nx := nx) (w := w) (t := t) (s := .int k) (xs := (tabA k n l).toList) (l := l) (by omega) (by omega) (by omega) (fun i hi φ w' => by
          refine ⟨.int k (rd l i 0).int, ?_, rfl⟩
          have := tabA_get (k := k) (l := l) (show i < n by omega)
          simpa using this))
        simpa [RV.den, SV.den, CV.den, Env.blk, Env.off, Env.setS] using this
  · cases h
/-- What a variable's first cell is, where it is nought. -/
def zeroSh : Value → Option (Sh × Ct)
  | .int k 0 => some (.int k, .i 0)
  | .bool false => some (.bool, .b false)
  | _ => none
def allZ : Sh → List Value → Bool
  | _, [] => true
  | .int k, .int k' n :: r => bif decide (k' = k) && decide (n = 0) then allZ (.int k) r else false
  | .bool, .bool b :: r => bif b then false else allZ .bool r
  | _, _ => false
theorem allZ_at : ∀ {xs : List Value} {v : Value} {s : Sh} {c : Ct}, zeroSh v = some (s, c) → allZ s xs = true → ∀ i, i < xs.length → ∃ u, xs[i]? = some u ∧ ∀ (w : World) (φ : Nat → Prop), CtHolds w φ 0 s c u := by
  intro xs
  induction xs with
  | nil => intro v s c _ _ i hi; simp at hi
  | cons x xs ih =>
    intro v s c hz ha i hi
    have hz' := hz
    unfold zeroSh at hz
    split at hz
    · rename_i k
      simp only [Option.some.injEq, Prod.mk.injEq] at hz
      obtain ⟨rfl, rfl⟩ := hz
      unfold allZ at ha
      split at ha
      · rename_i heq; cases heq
      · rename_i k1 k' n r hs heq
        cases hs
        cases heq
        cases hb : (decide (k' = k) && decide (n = 0)) with
        | false => rw [hb] at ha; cases ha
        | true =>
          rw [hb] at ha
          simp only [Bool.and_eq_true, decide_eq_true_eq] at hb
          obtain ⟨rfl, rfl⟩ := hb
          cases i with
          | zero => exact ⟨_, rfl, fun _ _ => rfl⟩
          | succ i => obtain ⟨u, h1, h2⟩ := ih hz' ha i (by simpa using hi); exact ⟨u, by simpa using h1, h2⟩
      · rename_i hs _; cases hs
      · cases ha
    · simp only [Option.some.injEq, Prod.mk.injEq] at hz
      obtain ⟨rfl, rfl⟩ := hz
      unfold allZ at ha
      split at ha
      · rename_i heq; cases heq
      · rename_i hs _; cases hs
      · rename_i b r hs heq
        cases heq
        cases b with
        | true => cases ha
        | false =>
          cases i with
          | zero => exact ⟨_, rfl, fun _ _ => rfl⟩
          | succ i => obtain ⟨u, h1, h2⟩ := ih hz' ha i (by simpa using hi); exact ⟨u, by simpa using h1, h2⟩
      · cases ha
    · cases hz
/-- A new variable that holds an array: a row of one's own, of noughts. -/
def opAllocA (P : Program) (nx : Nat) (t : TypeId) : Option Out :=
  match P.underlying t, symPure P (zeroValue t) with
  | some (.array len _), some v => (match (v.cells.toList.head?).bind zeroSh with
    | some (s, c) => bif Nat.beq v.cells.toList.length len && Nat.ble 16 len && Nat.ble len 65536 && allZ s v.cells.toList then some ⟨.sv (.one (.eptr (nx + 1) 0)), [(nx, .row [s] t (List.replicate len [c])), (nx + 1, .elem nx 0 1)], nx + 2, []⟩ else none
    | none => none)
  | _, _ => none
theorem opAllocA_ok {P : Program} {o : Oper} {get : Operand → RV} {hp : Hp} {nx : Nat} {out : Out} {t : TypeId} (ho : o.op = .alloc t) (h : opAllocA P nx t = some out) : OpOk P o get hp nx out := by
  unfold opAllocA at h
  split at h
  · rename_i len el v hu hv
    split at h
    · rename_i s c hz
      cases hq : (Nat.beq v.cells.toList.length len && Nat.ble 16 len && Nat.ble len 65536 && allZ s v.cells.toList) with
      | false => rw [hq] at h; cases h
      | true =>
        rw [hq] at h
        cases h
        simp only [Bool.and_eq_true] at hq
        have q1 := Nat.eq_of_beq_eq_true hq.1.1.1
        have q2 := Nat.le_of_ble_eq_true hq.1.1.2
        have q3 := Nat.le_of_ble_eq_true hq.1.2
        obtain ⟨z, _, hz'⟩ := Option.bind_eq_some_iff.1 hz
        intro e a w hx hs K Q hK
        refine wp_value (w' := w.alloc (.cells v.cells t)) (v := .pointer (some ⟨w.heap.size, 0, none⟩)) ?_ ?_
        · simp only [execOp, ho, Instr.alloc, Sem.run_bind, symPure_run _ _ hv, Result.andThen_ok]
          rfl
        · have := hK _ _ (postOp_newRow (e := e) (hp := hp) (nx := nx) (w := w) (t := t) (s := s) (xs := v.cells.toList) (l := List.replicate len [c]) (by rw [List.length_replicate, q1]) (by omega) (by omega) (fun i hi φ w' => by
            obtain ⟨u, g1, g2⟩ := allZ_at hz' hq.2 i (by rw [List.length_replicate] at hi; omega)
            refine ⟨u, g1, ?_⟩
            have hr : rd (List.replicate len [c]) i 0 = c := by
              rw [List.length_replicate] at hi
              simp [rd, List.getD_eq_getElem?_getD, hi]
            rw [hr]
            exact g2 w' φ))
          simpa [RV.den, SV.den, CV.den, Env.blk, Env.off, Env.setS, Array.toArray_toList] using this
    · cases h
  · cases h
end Go.Proofs.Ytonlllijdbjkaaa

/- Parts of one's own slices, by open numbers. No condition. -/
set_option linter.unusedVariables false
namespace Go.Proofs.Ytonlllijdbjkaaa
open Go.RowKit

/-- A part of a slice of one's own. -/
def opSliceP (P : Program) (get : Operand → RV) (hp : Hp) (nx : Nat) (t : TypeId) (x : Operand) (lo hi mx : Option Operand) : Option (Bool × Out) :=
  match mx, get x, P.underlying t with
  | none, .sv (.one (.ext id)), some (.slice e) => (match hlook hp id, sizeP P e with
    | some (.row sh _ l), some s => (match loOf get lo, hiOf get l.length hi with
      | some a, some b => bif Nat.beq s sh.length && Nat.blt id nx then some (decide (0 ≤ a ∧ a ≤ b ∧ b ≤ l.length ∧ 0 < l.length), ⟨.sv (.one (.ext nx)), [(nx, .part id a.toNat s (b.toNat - a.toNat))], nx + 1, []⟩) else none
      | _, _ => none)
    | _, _ => none)
  | _, _, _ => none
theorem opSliceP_ok {P : Program} {o : Oper} {get : Operand → RV} {hp : Hp} {nx : Nat} {out : Out} {t : TypeId} {x : Operand} {lo hi mx : Option Operand} {b : Bool} (ho : o.op = .slice t x lo hi mx) (h : opSliceP P get hp nx t x lo hi mx = some (b, out)) (hb : b = true) : OpOk P o get hp nx out := by
  have hmem : ∀ y, lo = some y ∨ hi = some y → y ∈ o.op.operands := by
    intro y hy
    rw [ho]
    rcases hy with rfl | rfl <;> simp [Op.operands]
  have hmx : x ∈ o.op.operands := by rw [ho]; simp [Op.operands]
  unfold opSliceP at h
  split at h
  · rename_i id el hg hu
    split at h
    · rename_i sh t' l s hl hs
      split at h
      · rename_i la lb h1 h2
        cases hbq : (Nat.beq s sh.length && Nat.blt id nx) with
        | false => rw [hbq] at h; cases h
        | true =>
          rw [hbq] at h
          simp only [cond_true, Option.some.injEq, Prod.mk.injEq] at h
          obtain ⟨rfl, rfl⟩ := h
          simp only [Bool.and_eq_true] at hbq
          obtain rfl := Nat.eq_of_beq_eq_true hbq.1
          have hid : id < nx := Nat.le_of_ble_eq_true hbq.2
          simp only [decide_eq_true_eq] at hb
          obtain ⟨q1, q2, q3, q4⟩ := hb
          intro e a w hx hsat K Q hK
          have hx1 := hx x hmx
          rw [hg] at hx1
          obtain ⟨⟨d, xs, hown, _⟩, _⟩ := hsat.holds _ _ hl
          rcases hown.2 with ⟨hv, hn⟩ | ⟨g, cap, cur, hv, hcap, hgg, rest⟩
          · omega
          have hx1' : a.eval x = .slice (some ⟨g, 0, none⟩) l.length cap := by rw [hx1]; exact hv
          have hσ0 : (e.σ id).1 = some ⟨g, 0, none⟩ ∧ (e.σ id).2.1 = l.length ∧ (e.σ id).2.2 = cap := by
            simp only [Env.slv, Value.slice.injEq] at hv; exact hv
          have hbd := bounds_run (P := P) (b := true) (n := l.length) (cap := cap) h1 h2 (fun y hy => hx y (hmem y hy)) q1 q2 (by omega) w
          let pt : Option Addr := if cap = la.toNat then some ⟨g, 0, none⟩ else some ⟨g, 0 + la.toNat * sh.length, none⟩
          refine wp_value (w' := w) (v := .slice pt (lb.toNat - la.toNat) (cap - la.toNat)) ?_ ?_
          · simp only [execOp, ho, hx1', Option.map_none, Instr.sliceAt, Instr.slice, Sem.run_bind, run_underlying hu, Result.andThen_ok, hbd, sizeP_run hs, Sem.run_pure, Option.map_some, addr_add, pt]
          · have hσ : (e.setS nx (pt, lb.toNat - la.toNat, cap - la.toNat) (e.φ id)).slv nx = .slice pt (lb.toNat - la.toNat) (cap - la.toNat) := by rw [Env.setS_slv]
            have := hK (e.setS nx (pt, lb.toNat - la.toNat, cap - la.toNat) (e.φ id)) w (PostOp.view (v := .sv (.one (.ext nx))) (up := [(nx, .part id la.toNat sh.length (lb.toNat - la.toNat))]) (nx' := nx + 1) (fun id' h => Env.setS_same (by omega)) fun id' o' h => ?_)
            · simp only [RV.den, SV.den, CV.den, hσ] at this
              exact this
            · obtain ⟨rfl, rfl⟩ := hlook_one h
              have e1 : (e.setS id' (pt, lb.toNat - la.toNat, cap - la.toNat) (e.φ id)).σ id' = (pt, lb.toNat - la.toNat, cap - la.toNat) := if_pos rfl
              have e2 : (e.setS id' (pt, lb.toNat - la.toNat, cap - la.toNat) (e.φ id)).σ id = e.σ id := if_neg (by omega)
              refine ⟨?_, fun _ h => h, fun b hb => False.elim hb⟩
              simp only [HO.holds, e1, e2]
              refine ⟨trivial, fun hn => ⟨⟨_, hσ0.1, rfl, ?_⟩, by omega, by rw [hσ0.2.2]⟩⟩
              simp only [pt]
              rw [if_neg (by omega)]
      · cases h
    · cases h
  · cases h
/-- The address of a row of such a part. -/
def opIndexP (P : Program) (get : Operand → RV) (hp : Hp) (nx : Nat) (t : TypeId) (x i : Operand) : Option (Bool × Out) :=
  match get x, intOfRV (get i), P.underlying t with
  | .sv (.one (.ext id)), some j, some (.slice e) => (match hlook hp id, sizeP P e with
    | some (.part q i0 wd n), some s => bif Nat.beq s wd then some (decide (0 ≤ j ∧ j < n), ⟨.sv (.one (.eptr nx 0)), [(nx, .elem q (i0 + j.toNat) wd)], nx + 1, []⟩) else none
    | _, _ => none)
  | _, _, _ => none
theorem opIndexP_ok {P : Program} {o : Oper} {get : Operand → RV} {hp : Hp} {nx : Nat} {out : Out} {t : TypeId} {x i : Operand} {b : Bool} (hwf : WfOp get o hp nx) (ho : o.op = .indexAddr t x i) (h : opIndexP P get hp nx t x i = some (b, out)) (hb : b = true) : OpOk P o get hp nx out := by
  unfold opIndexP at h
  split at h
  · rename_i id j el hg hj hu
    split at h
    · rename_i q i0 wd n s hl hs
      cases hbq : Nat.beq s wd with
      | false => rw [hbq] at h; cases h
      | true =>
        rw [hbq] at h
        simp only [cond_true, Option.some.injEq, Prod.mk.injEq] at h
        obtain ⟨rfl, rfl⟩ := h
        obtain rfl := Nat.eq_of_beq_eq_true hbq
        simp only [decide_eq_true_eq] at hb
        obtain ⟨hj0, hjn⟩ := hb
        intro e a w hx hsat K Q hK
        have hx1 := hx x (by rw [ho]; simp [Op.operands])
        have hx2 := hx i (by rw [ho]; simp [Op.operands])
        obtain ⟨k, hk⟩ := intOfRV_spec hj e
        rw [hg] at hx1
        rw [hk] at hx2
        obtain ⟨hσn, hpos⟩ := hsat.holds _ _ hl
        obtain ⟨⟨a', ha1, hsp, hσ1⟩, hle, hσ2⟩ := hpos (by omega)
        have hids := (hwf.hp id _ hl).2 q (by simp [HO.ids])
        have hx1' : a.eval x = .slice (some ⟨a'.block, a'.off + i0 * s, none⟩) n ((e.σ q).2.2 - i0) := by
          rw [hx1]
          show e.slv id = _
          simp only [Env.slv, hσ1, hσ2, hσn]
        refine wp_value (w' := w) (v := .pointer (some ⟨a'.block, a'.off + i0 * s + j.toNat * s, none⟩)) ?_ ?_
        · simp only [execOp, ho, hx1', hx2, Instr.indexAt, asIntOf, Sem.run_bind, run_underlying hu, Result.andThen_ok, Sem.run_pure]
          simp only [hj0, hjn, and_self, if_true, Sem.run_bind, sizeP_run hs, Result.andThen_ok, Sem.run_pure, addr_add]
        · have := hK (e.setS nx (some ⟨a'.block, a'.off + i0 * s + j.toNat * s, none⟩, 0, 0) fun _ => False) w (PostOp.view (fun id' h => Env.setS_same (by omega)) fun id' o' h => ?_)
          · simpa [RV.den, SV.den, CV.den, Env.blk, Env.off, Env.setS_σ] using this
          · obtain ⟨rfl, rfl⟩ := hlook_one h
            have hne : q ≠ id' := by omega
            refine ⟨⟨⟨a', ?_, hsp, ?_⟩, ?_⟩, fun _ h => h, fun _ h => False.elim h⟩
            · rw [(Env.setS_same hne).2.1, ha1]
            · rw [Env.setS_σ, Nat.add_mul, Nat.add_assoc]
            · rw [(Env.setS_same hne).2.1]; omega
    · cases h
  · cases h
/-- How long such a part is. -/
def opLenP (P : Program) (get : Operand → RV) (hp : Hp) (nx : Nat) (t : TypeId) (x : Operand) : Option Out :=
  match get x, P.underlying t with
  | .sv (.one (.ext id)), some (.slice _) => (match hlook hp id with
    | some (.part _ _ _ n) => some (.val nx (.sv (.one (.val false (.int .i64 n)))))
    | _ => none)
  | _, _ => none
theorem opLenP_ok {P : Program} {o : Oper} {get : Operand → RV} {hp : Hp} {nx : Nat} {out : Out} {t : TypeId} {x : Operand} {c : Call} (ho : o.op = .call c) (hc : c.callee = .builtin .len) (ha : c.args.toList = [x]) (hat : c.argTypes.toList = [t]) (h : opLenP P get hp nx t x = some out) : OpOk P o get hp nx out := by
  have ha' : c.args = #[x] := by apply Array.ext'; simpa using ha
  have hat' : c.argTypes = #[t] := by apply Array.ext'; simpa using hat
  have hmem : x ∈ o.op.operands := by rw [ho]; simp [Op.operands, Call.operands, ha']
  unfold opLenP at h
  split at h
  · rename_i id el hg hu
    split at h
    · rename_i q i0 wd n hl
      cases h
      refine OpOk.val fun e a w hx hsat => ?_
      have hx1 := hx x hmem
      rw [hg] at hx1
      obtain ⟨hσn, hpos⟩ := hsat.holds _ _ hl
      have hx1' : a.eval x = .slice (e.σ id).1 n (e.σ id).2.2 := by
        rw [hx1]
        show e.slv id = _
        simp only [Env.slv, hσn]
      have hrun : (Builtin.len_ #[t] o.type #[Value.slice (e.σ id).1 n (e.σ id).2.2]).run P w = .ok (.int .i64 n) w := by simp [Builtin.len_, run_underlying hu, goInt]
      simp only [execOp, ho, resolve, hc, ha', hat', List.map_toArray, List.map_cons, List.map_nil, hx1', Sem.run_bind, Sem.run_pure, Result.andThen_ok, invoke, builtin, hrun]
      rfl
    · cases h
  · cases h
/-- A part of such a part. -/
def opSliceQ (P : Program) (get : Operand → RV) (hp : Hp) (nx : Nat) (t : TypeId) (x : Operand) (lo hi mx : Option Operand) : Option (Bool × Out) :=
  match mx, get x, P.underlying t with
  | none, .sv (.one (.ext id)), some (.slice e) => (match hlook hp id, sizeP P e with
    | some (.part q i0 wd n), some s => (match hlook hp q, loOf get lo, hiOf get n hi with
      | some (.row _ _ l), some a, some b => bif Nat.beq s wd then some (decide (0 ≤ a ∧ a ≤ b ∧ b ≤ n ∧ 0 < n), ⟨.sv (.one (.ext nx)), [(nx, .part q (i0 + a.toNat) wd (b.toNat - a.toNat))], nx + 1, []⟩) else none
      | _, _, _ => none)
    | _, _ => none)
  | _, _, _ => none
theorem opSliceQ_ok {P : Program} {o : Oper} {get : Operand → RV} {hp : Hp} {nx : Nat} {out : Out} {t : TypeId} {x : Operand} {lo hi mx : Option Operand} {b : Bool} (hwf : WfOp get o hp nx) (ho : o.op = .slice t x lo hi mx) (h : opSliceQ P get hp nx t x lo hi mx = some (b, out)) (hb : b = true) : OpOk P o get hp nx out := by
  have hmem : ∀ y, lo = some y ∨ hi = some y → y ∈ o.op.operands := by
    intro y hy
    rw [ho]
    rcases hy with rfl | rfl <;> simp [Op.operands]
  have hmx : x ∈ o.op.operands := by rw [ho]; simp [Op.operands]
  unfold opSliceQ at h
  split at h
  · rename_i id el hg hu
    split at h
    · rename_i q i0 wd n s hl hs
      split at h
      · rename_i sh t' l la lb hq h1 h2
        cases hbq : Nat.beq s wd with
        | false => rw [hbq] at h; cases h
        | true =>
          rw [hbq] at h
          simp only [cond_true, Option.some.injEq, Prod.mk.injEq] at h
          obtain ⟨rfl, rfl⟩ := h
          obtain rfl := Nat.eq_of_beq_eq_true hbq
          simp only [decide_eq_true_eq] at hb
          obtain ⟨q1, q2, q3, q4⟩ := hb
          intro e a w hx hsat K Q hK
          have hx1 := hx x hmx
          rw [hg] at hx1
          have hqn := (hwf.hp q _ hq).1
          obtain ⟨hσn, hpos⟩ := hsat.holds _ _ hl
          obtain ⟨⟨a', ha1, hsp, hσ1⟩, hle, hσ2⟩ := hpos (by omega)
          obtain ⟨⟨d, xs, hown, _⟩, _⟩ := hsat.holds _ _ hq
          have hcap : (e.σ q).2.1 ≤ (e.σ q).2.2 := by
            rcases hown.2 with ⟨hv, hn⟩ | ⟨g, cap, cur, hv, hcap, hgg, rest⟩
            · simp only [Env.slv, Value.slice.injEq] at hv; omega
            · simp only [Env.slv, Value.slice.injEq] at hv; omega
          have hx1' : a.eval x = .slice (some ⟨a'.block, a'.off + i0 * s, none⟩) n ((e.σ q).2.2 - i0) := by
            rw [hx1]
            show e.slv id = _
            simp only [Env.slv, hσ1, hσ2, hσn]
          have hbd := bounds_run (P := P) (b := true) (n := n) (cap := (e.σ q).2.2 - i0) h1 h2 (fun y hy => hx y (hmem y hy)) q1 q2 (by omega) w
          let pt : Option Addr := if (e.σ q).2.2 - i0 = la.toNat then some ⟨a'.block, a'.off + i0 * s, none⟩ else some ⟨a'.block, a'.off + i0 * s + la.toNat * s, none⟩
          refine wp_value (w' := w) (v := .slice pt (lb.toNat - la.toNat) ((e.σ q).2.2 - i0 - la.toNat)) ?_ ?_
          · simp only [execOp, ho, hx1', Option.map_none, Instr.sliceAt, Instr.slice, Sem.run_bind, run_underlying hu, Result.andThen_ok, hbd, sizeP_run hs, Sem.run_pure, Option.map_some, addr_add, pt]
          · have hσ : (e.setS nx (pt, lb.toNat - la.toNat, (e.σ q).2.2 - i0 - la.toNat) (e.φ id)).slv nx = .slice pt (lb.toNat - la.toNat) ((e.σ q).2.2 - i0 - la.toNat) := by rw [Env.setS_slv]
            have := hK (e.setS nx (pt, lb.toNat - la.toNat, (e.σ q).2.2 - i0 - la.toNat) (e.φ id)) w (PostOp.view (v := .sv (.one (.ext nx))) (up := [(nx, .part q (i0 + la.toNat) s (lb.toNat - la.toNat))]) (nx' := nx + 1) (fun id' h => Env.setS_same (by omega)) fun id' o' h => ?_)
            · simp only [RV.den, SV.den, CV.den, hσ] at this
              exact this
            · obtain ⟨rfl, rfl⟩ := hlook_one h
              have hne : q ≠ id' := by omega
              refine ⟨?_, fun _ h => h, fun b hb => False.elim hb⟩
              simp only [HO.holds, Env.setS_σ]
              rw [(Env.setS_same hne).2.1]
              refine ⟨trivial, fun hn => ⟨⟨a', ha1, hsp, ?_⟩, by omega, by rw [Nat.sub_sub]⟩⟩
              simp only [pt]
              rw [if_neg (by omega), Nat.add_mul, Nat.add_assoc]
      · cases h
    · cases h
  · cases h
/-- What is copied over a part. -/
def layR (l0 : List (List Ct)) (i n : Nat) (l : List (List Ct)) : List (List Ct) := l0.take i ++ l.take n ++ l0.drop (i + min n l.length)
theorem layR_length {l0 l : List (List Ct)} {i n : Nat} (h : i + n ≤ l0.length) : (layR l0 i n l).length = l0.length := by
  simp only [layR, List.length_append, List.length_take, List.length_drop]; omega
theorem layR_rd {l0 l : List (List Ct)} {i n : Nat} (h : i + n ≤ l0.length) (k j : Nat) : rd (layR l0 i n l) k j = if i ≤ k ∧ k < i + min n l.length then rd l (k - i) j else rd l0 k j := by
  have hm : min i l0.length = i := by omega
  unfold rd
  simp only [layR, List.getD_eq_getElem?_getD, List.getElem?_append, List.length_append, List.length_take, List.getElem?_take, List.getElem?_drop, hm]
  by_cases h1 : k < i
  · rw [if_pos (by omega), if_pos h1, if_pos h1, if_neg (by omega)]
  · by_cases h2 : k < i + min n l.length
    · rw [if_pos h2, if_neg h1, if_pos (by omega), if_pos (by omega)]
    · rw [if_neg h2, if_neg (by omega), show i + min n l.length + (k - (i + min n l.length)) = k by omega]
/-- Numbers, copied into a part of a slice of one's own. -/
def opCopyP (P : Program) (get : Operand → RV) (hp : Hp) (nx : Nat) (t : TypeId) (x y : Operand) : Option (Bool × Out) :=
  match get x, P.underlying t with
  | .sv (.one (.ext id)), some (.slice e) => (match hlook hp id with
    | some (.part q i w n) => (match hlook hp q, P.underlying e, sizeP P e with
      | some (.row [.int k'] ty l0), some (.int k), some 1 => bif shEqL [.int k'] [.int k] && Nat.beq w 1 then (match srcOf hp [.int k] (get y) with
        | some ([], _, l) => some (decide (0 < n), ⟨.sv (.one (.val false (.int .i64 (bif Nat.blt l.length n then l.length else n)))), [(q, .row [.int k] ty (layR l0 i n l))], nx, [q]⟩)
        | _ => none) else none
      | _, _, _ => none)
    | _ => none)
  | _, _ => none
theorem opCopyP_ok {P : Program} {o : Oper} {get : Operand → RV} {hp : Hp} {nx : Nat} {out : Out} {t t' : TypeId} {x y : Operand} {c : Call} {b : Bool} (ho : o.op = .call c) (hc : c.callee = .builtin .copy) (ha : c.args.toList = [x, y]) (hat : c.argTypes.toList = [t, t'])
    (h : opCopyP P get hp nx t x y = some (b, out)) (hb : b = true) : OpOk P o get hp nx out := by
  have ha' : c.args = #[x, y] := by apply Array.ext'; simpa using ha
  have hat' : c.argTypes = #[t, t'] := by apply Array.ext'; simpa using hat
  have hop : o.op.operands = #[x, y] := by rw [ho]; simp [Op.operands, Call.operands, hc, ha']
  unfold opCopyP at h
  split at h
  rotate_left
  · cases h
  rename_i id e hgx hu
  split at h
  rotate_left
  · cases h
  rename_i q i wd n hl
  split at h
  rotate_left
  · cases h
  rename_i k' ty l0 k hq hue hs1
  cases hbk : (shEqL [.int k'] [.int k] && Nat.beq wd 1) with
  | false => rw [hbk] at h; cases h
  | true =>
    rw [hbk] at h
    simp only [cond_true] at h
    simp only [Bool.and_eq_true] at hbk
    have hkk := shEqL_spec hbk.1
    simp only [List.cons.injEq, Sh.int.injEq, and_true] at hkk
    have hkk := hkk.symm
    subst hkk
    obtain rfl := Nat.eq_of_beq_eq_true hbk.2
    split at h
    rotate_left
    · cases h
    rename_i Y l hsrc
    simp only [Option.some.injEq, Prod.mk.injEq] at h
    obtain ⟨rfl, rfl⟩ := h
    simp only [decide_eq_true_eq] at hb
    intro en a w hx hsat K Q hK
    have hx1 := hx x (by rw [hop]; simp)
    have hx2 := hx y (by rw [hop]; simp)
    rw [hgx] at hx1
    obtain ⟨hσn, hpos⟩ := hsat.holds _ _ hl
    obtain ⟨⟨a', ha1, hsp, hσ1⟩, hle, hσ2⟩ := hpos hb
    obtain ⟨⟨d0, xs, hown, hct0⟩, hφ⟩ := hsat.holds _ _ hq
    obtain ⟨φ2, ⟨d, ad, cp, news, hv, hnone, hnl, hat2, hct⟩, _⟩ := srcOf_ok hsrc (by simp) hsat (T := []) (vx := .slice none 0 0) (fun id h => by cases h) (fun b h => by cases h)
    rw [hv] at hx2
    rcases hown.2 with ⟨hv0, _⟩ | ⟨g, cap, cur, hv0, _, hg, hnc, hcm, hcs, htake⟩
    · simp only [Env.slv, Value.slice.injEq] at hv0
      rw [hv0.1] at ha1; cases ha1
    · have hv0' := hv0
      simp only [Env.slv, Value.slice.injEq] at hv0
      rw [hv0.1] at ha1
      cases ha1
      rw [hv0.2.1] at hle
      simp only [List.length_cons, List.length_nil, Nat.zero_add, Nat.mul_one] at hcs htake hct0 hσ1
      have hx1' : a.eval x = .slice (some ⟨g, i, none⟩) n ((en.σ q).2.2 - i) := by
        rw [hx1]
        show en.slv id = _
        simp only [Env.slv, hσ1, hσ2, hσn]
      have hnl1 : news.length = l.length := by simpa using hnl
      have hnews : ∀ i, i < l.length → news[i]? = some (.int k (rd l i 0).int) := by
        intro i hi
        obtain ⟨u, hu1, hu2⟩ := hct i hi 0 (.int k) rfl
        have e1 : i * [Sh.int k].length + 0 = i := by simp
        rw [e1] at hu1
        have : u = .int k (rd l i 0).int := by cases d <;> exact hu2
        rw [hu1, this]
      have h1c : ∀ v ∈ news.take n, v.oneCell' = true := by
        intro v hv
        obtain ⟨i, hi, rfl⟩ := List.getElem_of_mem hv
        have hi' : i < l.length := by simp [hnl1] at hi; omega
        have := hnews i hi'
        simp only [List.getElem_take]
        rw [List.getElem?_eq_getElem (by omega)] at this
        rw [Option.some.inj this]
        rfl
      have hres : (goInt ((news.take n).length : Nat)) = Value.int .i64 (bif Nat.blt l.length n then (l.length : Int) else (n : Int)) := by
        have hm : (news.take n).length = min n l.length := by simp [hnl1]
        rw [hm]
        by_cases h4 : l.length < n
        · rw [show Nat.blt l.length n = true from Nat.ble_eq_true_of_le h4, Nat.min_eq_right (by omega)]; rfl
        · rw [show Nat.blt l.length n = false from by cases hq : Nat.blt l.length n with | false => rfl | true => exact absurd (Nat.le_of_ble_eq_true hq) h4, Nat.min_eq_left (by omega)]; rfl
      let row := (cur.toList.take i ++ news.take n ++ cur.toList.drop (i + (news.take n).length)).toArray
      have hrun : (Builtin.copy_ #[t, t'] o.type #[.slice (some ⟨g, i, none⟩) n ((en.σ q).2.2 - i), .slice ad l.length cp]).run P w = .ok (Value.int .i64 (bif Nat.blt l.length n then (l.length : Int) else (n : Int))) (w.setRow g row) := by
        have hs1' : (P.info? e).map (·.size) = some 1 := by unfold sizeP at hs1; exact hs1
        cases had : ad with
        | none =>
          obtain ⟨hz, rfl⟩ := hnone had
          have hl0 : l = [] := List.length_eq_zero_iff.1 hz
          subst hl0
          have hn0 : news = [] := List.length_eq_zero_iff.1 hnl1
          subst hn0
          have := run_copy_nil (P := P) w t t' o.type e ⟨g, i, none⟩ n ((en.σ q).2.2 - i) hu (by rw [hs1']; rfl)
          have hset : w.setRow g row = w := by
            simp only [row, List.take_nil, List.append_nil, List.length_nil, Nat.add_zero, List.take_append_drop]
            exact setRow_self w _ _ _ _ hg
          rw [hset]
          refine (show _ = _ from this).trans ?_
          rw [List.take_nil] at hres
          exact congrArg (fun v => Result.ok v w) hres
        | some a0 =>
          have := run_copy_row (P := P) w t t' o.type e g i n ((en.σ q).2.2 - i) a0 l.length cp _ ty (news.take n) hu hs1' hg (by simp [hnl1, Nat.min_comm]) (fun j v hj => by
            have hj' : news[j]? = some v := by
              rw [List.getElem?_take] at hj
              split at hj
              · exact hj
              · cases hj
            exact hat2 a0 had j v hj') (by simp [hnl1]; omega) h1c
          rw [this, hres]
      have hblk : (en.slv q).ownBlock = some g := by rw [hv0']; rfl
      refine wp_value (w' := w.setRow g row) (v := Value.int .i64 (bif Nat.blt l.length n then (l.length : Int) else (n : Int))) ?_ ?_
      · simp only [execOp, ho, resolve, hc, ha', hat', List.map_toArray, List.map_cons, List.map_nil, hx1', hx2, Sem.run_bind, Sem.run_pure, Result.andThen_ok, invoke, builtin, hrun]
      · refine hK en _ ⟨fun _ _ => .refl _ _, rfl, rfl, rfl, by simp [World.setRow], fun k hk hne => setRow_other _ _ _ _ fun h' => hne q (by simp) _ hq (by subst h'; exact hblk), ⟨fun id' o' ho' => ?_, fun id1 o1 ho1 id2 o2 ho2 hne => absurd ((hlook_one ho1).1.trans (hlook_one ho2).1.symm) hne⟩, fun id' o' b ho' hf => ?_, fun id' o' b ho' hf => ?_⟩
        · obtain ⟨rfl, rfl⟩ := hlook_one ho'
          have hcur : ∀ p, (cur.toList.take i ++ news.take n ++ cur.toList.drop (i + (news.take n).length))[p]? = if i ≤ p ∧ p < i + min n l.length then news[p - i]? else cur[p]? := by
            intro p
            have hmin : min i cur.size = i := by omega
            simp only [List.getElem?_append, List.length_append, List.length_take, Array.length_toList, hmin, List.getElem?_take, List.getElem?_drop, Array.getElem?_toList, hnl1]
            by_cases p1 : p < i
            · rw [if_pos (by omega), if_pos p1, if_pos p1, if_neg (by omega)]
            · by_cases p2 : p < i + min n l.length
              · rw [if_pos p2, if_neg p1, if_pos (by omega), if_pos (by omega)]
              · rw [if_neg p2, if_neg (by omega)]
                congr 1; omega
          have hll := layR_length (l := l) hle
          refine ⟨⟨0, row.toList.take l0.length, ?_, fun i' hi' j s' hs' => ?_⟩, fun b hb => ⟨by have := (hφ b hb).1; simpa [World.setRow] using this, (hφ b hb).2⟩⟩
          · rw [hll]
            refine ⟨?_, .inr ⟨g, cap, _, hv0', Nat.zero_le _, setRow_heap w g cur _ ty (0, 0) hg, hnc, hcm, ?_, by simp⟩⟩
            · simp only [row, List.length_take, List.length_append, List.length_drop, Array.length_toList, hnl1, List.length_cons, List.length_nil]; omega
            · simp only [row, List.size_toArray, List.length_append, List.length_take, List.length_drop, Array.length_toList, hnl1, List.length_cons, List.length_nil]; omega
          · rw [hll] at hi'
            have hj : j = 0 := by
              rcases Nat.lt_or_ge j 1 with h | h
              · omega
              · rw [List.getElem?_eq_none (by simpa using h)] at hs'; cases hs'
            subst hj
            cases hs'
            simp only [List.length_cons, List.length_nil, Nat.zero_add, Nat.mul_one, Nat.add_zero, row]
            rw [List.getElem?_take, if_pos hi', hcur, layR_rd hle]
            by_cases hin : i ≤ i' ∧ i' < i + min n l.length
            · rw [if_pos hin, if_pos hin]
              exact ⟨_, hnews _ (by omega), rfl⟩
            · rw [if_neg hin, if_neg hin]
              obtain ⟨u, hu, hh⟩ := hct0 i' hi' 0 _ rfl
              refine ⟨u, ?_, ?_⟩
              · rw [← htake, Nat.add_zero, List.getElem?_take, if_pos hi'] at hu
                simpa using hu
              · cases d0 <;> exact hh
        · obtain ⟨rfl, rfl⟩ := hlook_one ho'
          exact .inr ⟨_, by simp, _, hq, hf⟩
        · obtain ⟨rfl, rfl⟩ := hlook_one ho'
          rcases hf with hf | hf
          · exact .inr (.inl ⟨_, by simp, _, hq, hf⟩)
          · exact .inr (.inr ⟨_, _, hq, .inr hf, (hφ b hf).2⟩)
end Go.Proofs.Ytonlllijdbjkaaa

/- Functions that lie in cells: slices of functions grow, an element is taken out (one way for each function), a function beside nil. No condition. -/
set_option linter.unusedVariables false
namespace Go.Proofs.Ytonlllijdbjkaaa
open Go.RowKit

abbrev FnAl := List (FuncId × List (TypeId × List Sh))
/-- A function beside nil. -/
def opNilF (P : Program) (get : Operand → RV) (nx : Nat) (op : BinOp) (t : TypeId) (x y : Operand) : Option Out :=
  match op, P.underlying t, get x, get y with
  | .eql, some (.func _ _ _), .sv (.one (.fn _ _)), .sv (.one (.val _ .nilFunc)) => some (boolOut true nx false)
  | .neq, some (.func _ _ _), .sv (.one (.fn _ _)), .sv (.one (.val _ .nilFunc)) => some (boolOut true nx true)
  | _, _, _, _ => none
theorem fn_nil {P : Program} {t : TypeId} {ps rs : Array TypeId} {vr : Bool} (h0 : P.underlying t = some (.func ps rs vr)) (f : Fn) (a b : Array Value) (w : World) : (Op.equal t (.func f a b) .nilFunc).run P w = .ok false w := by
  show (Op.equalIn (9999 + 1) t (.func f a b) .nilFunc).run P w = _
  unfold Op.equalIn
  simp only [Sem.run_bind, run_underlying h0, Result.andThen_ok, Sem.run_pure]
theorem opNilF_ok {P : Program} {o : Oper} {get : Operand → RV} {hp : Hp} {nx : Nat} {out : Out} {op : BinOp} {t yt : TypeId} {x y : Operand} (ho : o.op = .binOp op t x y yt) (h : opNilF P get nx op t x y = some out) : OpOk P o get hp nx out := by
  unfold opNilF at h
  split at h
  · rename_i ps rs vr f caps k h0 h1 h2
    cases h
    refine OpOk.val fun e a w hx hs => ?_
    have hx1 := hx x (by rw [ho]; simp [Op.operands])
    have hx2 := hx y (by rw [ho]; simp [Op.operands])
    rw [h1] at hx1
    rw [h2] at hx2
    have hx1' : a.eval x = .func (.func f) #[] (caps.map e.ptr).toArray := hx1
    have hx2' : a.eval y = .nilFunc := hx2
    simp only [execOp, ho, hx1', hx2', Sem.run_bind]
    have e1 : binOp .eql t (.func (.func f) #[] (caps.map e.ptr).toArray) .nilFunc = (do pure (.bool (← Op.equal t (.func (.func f) #[] (caps.map e.ptr).toArray) .nilFunc))) := rfl
    simp only [eqGuard, e1, Sem.run_bind, fn_nil h0, Result.andThen_ok, Sem.run_pure]
    rfl
  · rename_i ps rs vr f caps k h0 h1 h2
    cases h
    refine OpOk.val fun e a w hx hs => ?_
    have hx1 := hx x (by rw [ho]; simp [Op.operands])
    have hx2 := hx y (by rw [ho]; simp [Op.operands])
    rw [h1] at hx1
    rw [h2] at hx2
    have hx1' : a.eval x = .func (.func f) #[] (caps.map e.ptr).toArray := hx1
    have hx2' : a.eval y = .nilFunc := hx2
    simp only [execOp, ho, hx1', hx2', Sem.run_bind]
    have e1 : binOp .neq t (.func (.func f) #[] (caps.map e.ptr).toArray) .nilFunc = (do pure (.bool (!(← Op.equal t (.func (.func f) #[] (caps.map e.ptr).toArray) .nilFunc)))) := rfl
    simp only [eqGuard, e1, Sem.run_bind, fn_nil h0, Result.andThen_ok, Sem.run_pure]
    rfl
  · cases h
/-- Out of a block that is read alone. -/
def opLoadL (P : Program) (get : Operand → RV) (hp : Hp) (nx : Nat) (t : TypeId) (x : Operand) : Option Out :=
  match get x with
  | .sv (.one (.ptr id off)) => (match hlook hp id with
    | some (.lent cs _) => (match ldCells P t cs off with
      | some s => some (.val nx (.sv s))
      | none => none)
    | _ => none)
  | _ => none
theorem opLoadL_ok {P : Program} {o : Oper} {get : Operand → RV} {hp : Hp} {nx : Nat} {out : Out} {t : TypeId} {x : Operand} (ho : o.op = .load t x) (h : opLoadL P get hp nx t x = some out) : OpOk P o get hp nx out := by
  unfold opLoadL at h
  split at h
  · rename_i id off hg
    split at h
    · rename_i cs ty hl
      split at h
      · rename_i s hld
        cases h
        refine OpOk.val fun e a w hx hs => ?_
        have hx' := hx x (by rw [ho]; simp [Op.operands])
        rw [hg] at hx'
        simp only [execOp, ho, Instr.loadAt, hx', RV.den, SV.den, CV.den, Instr.sureAddr, Sem.run_bind, Sem.run_pure, Result.andThen_ok]
        have hh0 := hs.holds _ _ hl
        have hh : (HO.cells cs ty).holds e w id := hh0
        have := ldCells_load hld (holds_cells_cell hh)
        rw [Nat.zero_add] at this
        rw [this]
        rfl
      · cases h
    · cases h
  · cases h

/-! ### An element -/
def capL : List (TypeId × List Sh) → Nat → List (Nat × Nat)
  | [], _ => []
  | _ :: r, nb => (nb, 0) :: capL r (nb + 1)
def capHp (l : List (List Ct)) : List (TypeId × List Sh) → Nat → Nat → Nat → Hp
  | [], _, _, _ => []
  | p :: r, k, nb, nx => (nb, .lent (rowCV l k p.2 0 nx) p.1) :: (rowHp l k p.2 0 nx ++ capHp l r (k + 1) (nb + 1) (rowNx p.2 nx))
def capNx : List (TypeId × List Sh) → Nat → Nat
  | [], nx => nx
  | p :: r, nx => capNx r (rowNx p.2 nx)
def capOk (caps : List (TypeId × List Sh)) : Bool := caps.all fun p => noFn p.2
def kindOf (c : Ct) : Nat := (rd c.rows 0 0).int.toNat
def fnWays (c : Ct) (nx : Nat) (n : Nat) : FnAl → Nat → List (Bool × Out)
  | [], k => [(decide (n ≤ kindOf c), .val nx (.sv (.one (.val true .nilFunc))))]
  | (f, caps) :: r, k => (decide (kindOf c = k), ⟨.sv (.one (.fn f (capL caps nx))), capHp c.rows caps 1 nx (nx + caps.length), capNx caps (nx + caps.length), []⟩) :: fnWays c nx n r (k + 1)
def loadWays (P : Program) (get : Operand → RV) (hp : Hp) (nx : Nat) (t : TypeId) (x : Operand) : Option (List (Bool × Out)) :=
  match get x with
  | .sv (.one (.eptr q 0)) => (match hlook hp q with
    | some (.elem id i 1) => (match (hlook hp id).bind HO.ls, isAggP P t with
      | some ([.fn al], l), some false => bif al.all (fun p => capOk p.2) then some (fnWays (rd l i 0) nx al.length al 0) else none
      | _, _ => none)
    | _ => none)
  | _ => none
theorem rowCV_ids (l : List (List Ct)) (i : Nat) : ∀ (sh : List Sh) (j nx : Nat), nx ≤ rowNx sh nx ∧ ∀ c ∈ rowCV l i sh j nx, ∀ id ∈ c.ids, nx ≤ id ∧ id < rowNx sh nx := by
  intro sh
  induction sh with
  | nil => intro j nx; exact ⟨Nat.le_refl _, fun c hc => by cases hc⟩
  | cons s sh ih =>
    intro j nx
    cases s with
    | sl el =>
      obtain ⟨h1, h2⟩ := ih (j + 1) (nx + 1)
      refine ⟨by simp only [rowNx]; omega, fun c hc id hid => ?_⟩
      simp only [rowCV, List.mem_cons] at hc
      simp only [rowNx]
      rcases hc with rfl | hc
      · simp only [CV.ids, List.mem_singleton] at hid; omega
      · have := h2 c hc id hid; omega
    | _ =>
      obtain ⟨h1, h2⟩ := ih (j + 1) nx
      refine ⟨by simpa only [rowNx] using h1, fun c hc id hid => ?_⟩
      simp only [rowCV, List.mem_cons] at hc
      simp only [rowNx]
      rcases hc with rfl | hc
      · cases hid
      · exact h2 c hc id hid
theorem rowHp_ids (l : List (List Ct)) (i : Nat) : ∀ (sh : List Sh) (j nx : Nat) {id : Nat} {o : HO}, hlook (rowHp l i sh j nx) id = some o → o.ids = [] := by
  intro sh
  induction sh with
  | nil => intro j nx id o h; cases h
  | cons s sh ih =>
    intro j nx id o h
    cases s with
    | sl el =>
      simp only [rowHp, hlook] at h
      cases hb : Nat.beq nx id with
      | true => rw [hb] at h; cases h; rfl
      | false => rw [hb] at h; exact ih _ _ h
    | _ => exact ih _ _ h
theorem cap_ok {w : World} {φ0 : Nat → Prop} {d : Nat} {l : List (List Ct)} (hφ : ∀ b, φ0 b → b < w.heap.size) : ∀ (caps : List (TypeId × List Sh)) (bs : List Nat) (k nb nx : Nat) (e : Env), nb + caps.length ≤ nx → capOk caps = true → bs.length = caps.length →
    (∀ (j : Nat) t sh, caps[j]? = some (t, sh) → ∃ b us, bs[j]? = some b ∧ φ0 b ∧ w.heap[b]? = some (.cells us t (0, 0)) ∧ us.size = sh.length ∧ ∀ (q : Nat) s, sh[q]? = some s → ∃ u, us[q]? = some u ∧ CtHolds w φ0 d s (rd l (k + j) q) u) →
    ∃ e', (∀ id, (id < nb ∨ (nb + caps.length ≤ id ∧ id < nx) ∨ capNx caps nx ≤ id) → e.same e' id) ∧ nx ≤ capNx caps nx ∧ (capL caps nb).map e'.ptr = bs.map (fun b => Value.pointer (some ⟨b, 0, none⟩)) ∧
      ∀ id o, hlook (capHp l caps k nb nx) id = some o → ((nb ≤ id ∧ id < nb + caps.length) ∨ (nx ≤ id ∧ id < capNx caps nx)) ∧ o.holds e' w id ∧ (∀ b, ¬ o.owns e' id b) ∧ ∀ b, o.foot e' id b → φ0 b := by
  intro caps
  induction caps with
  | nil =>
    intro bs k nb nx e _ _ hl _
    have : bs = [] := List.length_eq_zero_iff.1 hl
    subst this
    exact ⟨e, fun _ _ => .refl _ _, Nat.le_refl _, rfl, fun id o h => by cases h⟩
  | cons p caps ih =>
    obtain ⟨t, sh⟩ := p
    intro bs k nb nx e hnb hok hl hc
    cases bs with
    | nil => cases hl
    | cons b bs =>
      simp only [capOk, List.all_cons, Bool.and_eq_true] at hok
      simp only [List.length_cons] at hl hnb
      obtain ⟨b', us, hb, hφb, hheap, hus, hcell⟩ := hc 0 t sh rfl
      simp only [List.getElem?_cons_zero, Option.some.injEq] at hb
      subst hb
      have hrn := (rowCV_ids l k sh 0 nx).1
      obtain ⟨e1, k1, k2, k3, k4⟩ := rowCV_ok (l := l) (i := k) (blk := b) (d := d) hφ sh 0 nx 0 (e.set nb b) (fun q s hs => by
        obtain ⟨u, hu, hh⟩ := hcell q s hs
        refine ⟨u, ?_, by rw [Nat.zero_add]; exact hh⟩
        rw [Nat.zero_add]
        exact blk_cell' hheap hu) hok.1
      obtain ⟨e2, m1, m2, m3, m4⟩ := ih bs (k + 1) (nb + 1) (rowNx sh nx) e1 (by omega) (by unfold capOk; exact hok.2) (by omega) (fun j t' sh' hj => by
        obtain ⟨b'', us', g1, g2, g3, g4, g5⟩ := hc (j + 1) t' sh' (by simpa using hj)
        refine ⟨b'', us', by simpa using g1, g2, g3, g4, fun q s hs => ?_⟩
        obtain ⟨u, hu, hh⟩ := g5 q s hs
        exact ⟨u, hu, by rw [show k + 1 + j = k + (j + 1) by omega]; exact hh⟩)
      have hnb2 : e1.same e2 nb := m1 nb (.inl (Nat.lt_succ_self _))
      have hnb1 : (e.set nb b).same e1 nb := k1 nb (.inl (by omega))
      have hρ : e2.ρ nb = b := by rw [hnb2.1, hnb1.1]; simp [Env.set]
      have hmid : ∀ id, nx ≤ id → id < rowNx sh nx → e1.same e2 id := fun id h1 h2 => m1 id (.inr (.inl ⟨by omega, h2⟩))
      have hcapnx : capNx ((t, sh) :: caps) nx = capNx caps (rowNx sh nx) := rfl
      refine ⟨e2, fun id hid => ?_, by rw [hcapnx]; omega, ?_, fun id o h => ?_⟩
      · simp only [List.length_cons] at hid
        rw [hcapnx] at hid
        have a1 : e.same (e.set nb b) id := Env.set_same (by omega)
        have a2 : (e.set nb b).same e1 id := k1 id (by omega)
        have a3 : e1.same e2 id := m1 id (by omega)
        exact (a1.trans a2).trans a3
      · simp only [capL, List.map_cons]
        rw [m3]
        simp only [Env.ptr, hρ]
      · simp only [capHp, hlook] at h
        rw [hcapnx]
        simp only [List.length_cons]
        cases hbq : Nat.beq nb id with
        | true =>
          rw [hbq] at h
          simp only [cond_true, Option.some.injEq] at h
          subst h
          obtain rfl := Nat.eq_of_beq_eq_true hbq
          refine ⟨.inl ⟨Nat.le_refl _, by omega⟩, ?_, fun _ h => h, fun b' hb' => ?_⟩
          · show w.heap[e2.ρ nb]? = _
            rw [hρ, hheap]
            have hden : (rowCV l k sh 0 nx).map (CV.den e2) = (rowCV l k sh 0 nx).map (CV.den e1) :=
              List.map_congr_left fun c hc => c.den_same fun id hid => hmid id ((rowCV_ids l k sh 0 nx).2 c hc id hid).1 ((rowCV_ids l k sh 0 nx).2 c hc id hid).2
            rw [hden]
            congr 2
            apply Array.ext'
            apply List.ext_getElem?
            intro q
            by_cases hq : q < sh.length
            · have hlen : q < (rowCV l k sh 0 nx).length := by rw [rowCV_length]; exact hq
              have := k3 q _ (List.getElem?_eq_getElem hlen)
              rw [Nat.zero_add] at this
              obtain ⟨u, hu, _⟩ := hcell q _ (List.getElem?_eq_getElem hq)
              rw [blk_cell' hheap hu] at this
              simp only [Option.some.injEq] at this
              rw [Array.getElem?_toList, hu, this]
              simp [List.getElem?_eq_getElem hlen]
            · rw [List.getElem?_eq_none (by simpa [hus] using hq), List.getElem?_eq_none (by simpa [rowCV_length] using hq)]
          · have : b' = e2.ρ nb := hb'
            rw [this, hρ]; exact hφb
        | false =>
          rw [hbq] at h
          simp only [cond_false, hlook_append] at h
          cases hr : hlook (rowHp l k sh 0 nx) id with
          | some o1 =>
            rw [hr] at h
            cases h
            obtain ⟨g1, g2, g3, g4, g5⟩ := k4 id o hr
            have hs := hmid id g1 g2
            refine ⟨.inr ⟨g1, by omega⟩, HO.holds_next g3 hs (fun i hi => by rw [rowHp_ids l k sh 0 nx hr] at hi; cases hi) (fun _ _ => rfl) (Nat.le_refl _), fun b' hb' => g4 b' ((HO.owns_same hs).1 hb'), fun b' hb' => g5 b' ((HO.foot_same hs).1 hb')⟩
          | none =>
            rw [hr] at h
            obtain ⟨g1, g2⟩ := m4 id o h
            refine ⟨?_, g2⟩
            rcases g1 with g1 | g1
            · exact .inl ⟨by omega, by omega⟩
            · exact .inr ⟨by omega, g1.2⟩
theorem fnWays_mem {c : Ct} {nx n : Nat} : ∀ {al : FnAl} {k : Nat} {p : Bool × Out}, p ∈ fnWays c nx n al k → (p = (decide (n ≤ kindOf c), .val nx (.sv (.one (.val true .nilFunc)))) ∨
    ∃ j f caps, al[j]? = some (f, caps) ∧ p = (decide (kindOf c = k + j), ⟨.sv (.one (.fn f (capL caps nx))), capHp c.rows caps 1 nx (nx + caps.length), capNx caps (nx + caps.length), []⟩)) := by
  intro al
  induction al with
  | nil => intro k p h; simp only [fnWays, List.mem_singleton] at h; exact .inl h
  | cons a al ih =>
    obtain ⟨f, caps⟩ := a
    intro k p h
    simp only [fnWays, List.mem_cons] at h
    rcases h with h | h
    · exact .inr ⟨0, f, caps, rfl, by rw [h, Nat.add_zero]⟩
    · rcases ih h with h | ⟨j, f', caps', h1, h2⟩
      · exact .inl h
      · exact .inr ⟨j + 1, f', caps', by simpa using h1, by rw [h2, show k + 1 + j = k + (j + 1) by omega]⟩
theorem loadWays_ok {P : Program} {o : Oper} {get : Operand → RV} {hp : Hp} {nx : Nat} {l : List (Bool × Out)} {t : TypeId} {x : Operand} (ho : o.op = .load t x) (h : loadWays P get hp nx t x = some l) : ∀ p ∈ l, p.1 = true → OpOk P o get hp nx p.2 := by
  unfold loadWays at h
  split at h
  · rename_i q hg
    split at h
    · rename_i id i hq
      split at h
      · rename_i al rows hl hag
        cases hal : al.all (fun p => capOk p.2) with
        | false => rw [hal] at h; cases h
        | true =>
          rw [hal] at h
          simp only [cond_true, Option.some.injEq] at h
          subst h
          intro p hp hp1 e a w hx hsat K Q hK
          obtain ⟨ob, d, bk, o1, hob, hls, hi, hσ, hσ', hf, hφ1, hφ2, hcell⟩ := elem_at (e := e) (w := w) (off := 0) hsat hq hl rfl
          have hx1 := hx x (by rw [ho]; simp [Op.operands])
          rw [hg] at hx1
          have hx1' : a.eval x = .pointer (some ⟨bk, o1 + i * 1, none⟩) := by rw [hx1]; simp [RV.den, SV.den, CV.den, Env.blk, Env.off, hσ]
          obtain ⟨u, hu, hh⟩ := hcell 0 _ rfl
          simp only [List.length_cons, List.length_nil, Nat.zero_add, Nat.add_zero] at hu
          have hrun : (execOp a.eval o).run P w = .ok (.value u) w := by
            simp only [execOp, ho, Instr.loadAt, hx1', Instr.sureAddr, Sem.run_bind, Sem.run_pure, Result.andThen_ok, loadVar, isAgg_run hag, Bool.false_eq_true, if_false, run_load, hu]
          cases d with
          | zero => exact False.elim hh
          | succ d =>
            have hh' : FnAt w (e.φ id) (CtHolds w (e.φ id) d) al (rd rows i 0).rows u := hh
            rcases fnWays_mem hp with rfl | ⟨j, f, caps, hj, rfl⟩
            · simp only [decide_eq_true_eq] at hp1
              have hnone : al[(rd (rd rows i 0).rows 0 0).int.toNat]? = none := List.getElem?_eq_none hp1
              rcases hh' with ⟨_, rfl⟩ | ⟨f, caps, h1, _⟩
              · exact wp_value hrun (hK e w (PostOp.none e _ nx nx _ w))
              · rw [hnone] at h1; cases h1
            · simp only [decide_eq_true_eq, Nat.zero_add] at hp1
              have hsome : al[(rd (rd rows i 0).rows 0 0).int.toNat]? = some (f, caps) := by
                have : (rd (rd rows i 0).rows 0 0).int.toNat = j := hp1
                rw [this]; exact hj
              rcases hh' with ⟨h1, _⟩ | ⟨f', caps', h1, bs, hbl, rfl, hbs⟩
              · rw [hsome] at h1; cases h1
              · rw [hsome] at h1
                cases h1
                obtain ⟨e', k1, k2, k3, k4⟩ := cap_ok (l := (rd rows i 0).rows) (d := d) hφ1 caps bs 1 nx (nx + caps.length) e (Nat.le_refl _) (List.all_eq_true.1 hal _ (List.mem_of_getElem? hj)) hbl (fun j t' sh' hj' => by
                  obtain ⟨b, us, g1, g2, g3, g4, g5⟩ := hbs j t' sh' hj'
                  refine ⟨b, us, g1, g2, g3, g4, fun q s hs => ?_⟩
                  obtain ⟨u, hu, hh⟩ := g5 q s hs
                  exact ⟨u, hu, by rw [Nat.add_comm 1 j]; exact hh⟩)
                refine wp_value hrun ?_
                have := hK e' w (PostOp.view (v := .sv (.one (.fn f (capL caps nx)))) (fun id' h => k1 id' (by have h' : id' < nx ∨ capNx caps (nx + caps.length) ≤ id' := h; omega)) fun id' o' h' => ?_)
                · simp only [RV.den, SV.den, CV.den] at this
                  rw [k3] at this
                  exact this
                · obtain ⟨_, m1, m2, m3⟩ := k4 id' o' h'
                  exact ⟨m1, m2, fun b hb => ⟨id, ob, hob, (hφ2 b (m3 b hb)).1, (hφ2 b (m3 b hb)).2⟩⟩
      · cases h
    · cases h
  · cases h

/-! ### Slices of functions that grow -/
def capRows (hp : Hp) : List (TypeId × List Sh) → List (Nat × Nat) → Option (List (List Ct))
  | [], [] => some []
  | p :: r, (id, 0) :: q => (match hlook hp id with
    | some (.cells cs t') => bif Nat.beq p.1 t' then (match ctsOf hp cs p.2, capRows hp r q with
      | some row, some l => some (row :: l)
      | _, _ => none) else none
    | _ => none)
  | _, _ => none
def capIds (hp : Hp) (caps : List (Nat × Nat)) : List Nat := caps.flatMap fun p => match hlook hp p.1 with | some (.cells cs _) => cs.flatMap CV.ids | _ => []
def findFn (f : FuncId) : FnAl → Nat → Option (Nat × List (TypeId × List Sh))
  | [], _ => none
  | p :: r, k => bif Nat.beq p.1 f then some (k, p.2) else findFn f r (k + 1)
/-- One function, written out. -/
def fnSrc (hp : Hp) (al : FnAl) : RV → Option (List Nat × List Nat × List (List Ct))
  | .sv (.one (.sl id off 1 _)) => (match hlook hp id with
    | some (.cells cs _) => (match cs[off]? with
      | some (.val _ .nilFunc) => bif Nat.ble al.length 99 then some ([], [id], [[.l [[.i 99]]]]) else none
      | some (.fn f caps) => (match findFn f al 0 with
        | some (k, shs) => (match capRows hp shs caps with
          | some rows => some (caps.map (·.1) ++ (capIds hp caps).filter (isRowAt hp), id :: (caps.map (·.1) ++ capIds hp caps), [[.l ([.i k] :: rows)]])
          | none => none)
        | none => none)
      | _ => none)
    | _ => none)
  | _ => none
def fnShape (hp : Hp) : RV → Option FnAl
  | .sv (.one (.ext id)) => (match (hlook hp id).bind HO.ls with
    | some ([.fn al], _) => some al
    | _ => none)
  | _ => none
def srcF (hp : Hp) (al : FnAl) (y : RV) : Option (List Nat × List Nat × List (List Ct)) :=
  match srcOf hp [.fn al] y with
  | some q => some q
  | none => fnSrc hp al y
def shapeF (hp : Hp) (x y : RV) : Option FnAl :=
  match fnShape hp x with
  | some al => some al
  | none => fnShape hp y
def opAppendF (P : Program) (get : Operand → RV) (hp : Hp) (nx : Nat) (t : TypeId) (x y : Operand) : Option (Bool × Out) :=
  match P.underlying t, shapeF hp (get x) (get y) with
  | some (.slice e), some al => (match P.info? e with
    | some i => (match tgtOf hp [.fn al] e (get x), srcF hp al (get y), i.zero with
      | some (T, l1), some (C, Y, l2), some z =>
        bif Nat.beq i.size 1 && Nat.beq z.cells.size 1 && T.all (fun id => !Y.any (Nat.beq id)) && (T ++ C).all (fun id => Nat.blt id nx) then
          some (decide (l1.length + l2.length ≤ 9223372036854775807 ∧ (l1.length + l2.length) * i.bytes ≤ 140737488355328), ⟨.sv (.one (.ext nx)), (nx, .row [.fn al] e (l1 ++ l2)) :: gones (T ++ C), nx + 1, T ++ C⟩)
        else none
      | _, _, _ => none)
    | none => none)
  | _, _ => none
theorem findFn_at {f : FuncId} : ∀ {al : FnAl} {k0 k : Nat} {shs : List (TypeId × List Sh)}, findFn f al k0 = some (k, shs) → ∃ j, k = k0 + j ∧ al[j]? = some (f, shs) := by
  intro al
  induction al with
  | nil => intro k0 k shs h; cases h
  | cons p r ih =>
    intro k0 k shs h
    simp only [findFn] at h
    cases hb : Nat.beq p.1 f with
    | true =>
      rw [hb] at h
      cases h
      exact ⟨0, rfl, by simp [← Nat.eq_of_beq_eq_true hb]⟩
    | false =>
      rw [hb] at h
      obtain ⟨j, h1, h2⟩ := ih h
      exact ⟨j + 1, by omega, by simpa using h2⟩
theorem capRows_ok {hp : Hp} {e : Env} {w : World} (hsat : Sat e (hlook hp) w) : ∀ {shs : List (TypeId × List Sh)} {caps : List (Nat × Nat)} {rows : List (List Ct)}, capRows hp shs caps = some rows → caps.length = shs.length ∧ caps.map e.ptr = (caps.map fun p => e.ρ p.1).map (fun b => Value.pointer (some ⟨b, 0, none⟩)) ∧
    (∀ p ∈ caps, ∃ cs t sh row, hlook hp p.1 = some (.cells cs t) ∧ ctsOf hp cs sh = some row) ∧
    ∃ d, ∀ (k : Nat) t sh, shs[k]? = some (t, sh) → ∃ p cs, caps[k]? = some p ∧ hlook hp p.1 = some (.cells cs t) ∧ cs.length = sh.length ∧ ∀ (j : Nat) s, sh[j]? = some s → ∃ c, cs[j]? = some c ∧ CtHolds w (Nest hp e cs) d s (rd rows k j) (c.den e) := by
  intro shs
  induction shs with
  | nil =>
    intro caps rows h
    cases caps with
    | nil => exact ⟨rfl, rfl, fun p hp' => (by cases hp'), 0, fun k t sh h => (by simp at h)⟩
    | cons p q => simp [capRows] at h
  | cons a shs ih =>
    obtain ⟨t, sh⟩ := a
    intro caps rows h
    cases caps with
    | nil => simp [capRows] at h
    | cons p caps =>
      obtain ⟨id, off⟩ := p
      cases off with
      | succ off => simp [capRows] at h
      | zero =>
        simp only [capRows] at h
        split at h
        · rename_i cs t' hl
          cases hb : Nat.beq t t' with
          | false => rw [hb] at h; cases h
          | true =>
            rw [hb] at h
            simp only [cond_true] at h
            obtain rfl := Nat.eq_of_beq_eq_true hb
            split at h
            · rename_i row l h1 h2
              cases h
              obtain ⟨g1, g2, g3, d, g4⟩ := ih h2
              obtain ⟨k1, k2, d', k3⟩ := ctsOf_ok hsat h1
              refine ⟨by simp [g1], by simp only [List.map_cons, g2]; rfl, fun p hp => ?_, max d d', fun k t' sh' hk => ?_⟩
              · rcases List.mem_cons.1 hp with rfl | hp
                · exact ⟨cs, t, sh, row, hl, h1⟩
                · exact g3 p hp
              · cases k with
                | zero =>
                  simp only [List.getElem?_cons_zero, Option.some.injEq, Prod.mk.injEq] at hk
                  obtain ⟨rfl, rfl⟩ := hk
                  refine ⟨(id, 0), cs, rfl, hl, k1, fun j s hs => ?_⟩
                  obtain ⟨c, hc, hh⟩ := k3 j s hs
                  exact ⟨c, hc, hh.deeper (Nat.le_max_right _ _)⟩
                | succ k =>
                  obtain ⟨p, cs', m1, m2, m3, m4⟩ := g4 k t' sh' (by simpa using hk)
                  refine ⟨p, cs', by simpa using m1, m2, m3, fun j s hs => ?_⟩
                  obtain ⟨c, hc, hh⟩ := m4 j s hs
                  exact ⟨c, hc, hh.deeper (Nat.le_max_left _ _)⟩
            · cases h
        · cases h
theorem fnSrc_ok {hp : Hp} {al : FnAl} {r : RV} {C Y : List Nat} {l : List (List Ct)} (h : fnSrc hp al r = some (C, Y, l)) {e : Env} {w : World} (hsat : Sat e (hlook hp) w) {T : List Nat} {vx : Value} (hT : ∀ id ∈ T, id ∉ Y)
    (hx : ∀ b, vx.ownBlock = some b → ∃ id0 ∈ T, ∃ o0, hlook hp id0 = some o0 ∧ o0.owns e id0 b) : ∃ φ2, Srce w [.fn al] (r.den e) l φ2 ∧ Fine hp e w (T ++ C) vx φ2 := by
  have apart : ∀ id ∈ Y, ∀ o, hlook hp id = some o → ∀ b, o.foot e id b → vx.ownBlock ≠ some b := by
    intro id hid o ho b hb h
    obtain ⟨id0, h1, o0, h2, h3⟩ := hx b h
    exact hsat.apart id0 o0 h2 id o ho (fun hh => hT id0 h1 (by rw [hh]; exact hid)) b h3 hb
  unfold fnSrc at h
  split at h
  · rename_i id off cap
    split at h
    · rename_i cs t hl
      have hc := hsat.holds _ _ hl
      split at h
      · rename_i kn hcs
        cases hble : Nat.ble al.length 99 with
        | false => rw [hble] at h; cases h
        | true =>
        rw [hble] at h
        simp only [cond_true, Option.some.injEq, Prod.mk.injEq] at h
        obtain ⟨rfl, rfl, rfl⟩ := h
        refine ⟨fun _ => False, ⟨1, some ⟨e.ρ id, off, none⟩, cap, [.nilFunc], rfl, fun h => (by cases h), rfl, fun ad had j u hu => ?_, fun i hi j s hs => ?_⟩, fun b hb => False.elim hb⟩
        · cases had
          cases j with
          | zero =>
            simp only [List.getElem?_cons_zero, Option.some.injEq] at hu
            subst hu
            have := holds_cells_cell hc off _ hcs
            rw [Nat.zero_add] at this
            rw [addr_add]
            exact this
          | succ j => simp at hu
        · have hi0 : i = 0 := by simp at hi; exact hi
          subst hi0
          cases j with
          | zero =>
            cases hs
            exact ⟨.nilFunc, rfl, .inl ⟨List.getElem?_eq_none (Nat.le_of_ble_eq_true hble), rfl⟩⟩
          | succ j => simp at hs
      · rename_i f caps hcs
        split at h
        · rename_i k shs hf
          split at h
          · rename_i rows hr
            simp only [Option.some.injEq, Prod.mk.injEq] at h
            obtain ⟨rfl, rfl, rfl⟩ := h
            obtain ⟨j0, rfl, hal⟩ := findFn_at hf
            obtain ⟨g1, g2, g3, d, g4⟩ := capRows_ok hsat hr
            let φ2 : Nat → Prop := fun b => (∃ p ∈ caps, b = e.ρ p.1) ∨ ∃ i ∈ capIds hp caps, ∃ o, hlook hp i = some o ∧ o.foot e i b
            have hnest : ∀ p ∈ caps, ∀ cs' t', hlook hp p.1 = some (.cells cs' t') → ∀ b, Nest hp e cs' b → φ2 b := by
              intro p hp' cs' t' hl' b hb
              obtain ⟨i, hi, o, ho, hfo⟩ := hb
              refine .inr ⟨i, List.mem_flatMap.2 ⟨p, hp', ?_⟩, o, ho, hfo⟩
              rw [hl']; exact hi
            refine ⟨φ2, ⟨d + 1, some ⟨e.ρ id, off, none⟩, cap, [.func (.func f) #[] (caps.map e.ptr).toArray], rfl, fun h => (by cases h), rfl, fun ad had j u hu => ?_, fun i hi j s hs => ?_⟩, fun b hb => ?_⟩
            · cases had
              cases j with
              | zero =>
                simp only [List.getElem?_cons_zero, Option.some.injEq] at hu
                subst hu
                have := holds_cells_cell hc off _ hcs
                rw [Nat.zero_add] at this
                rw [addr_add]
                exact this
              | succ j => simp at hu
            · have hi0 : i = 0 := by simp at hi; exact hi
              subst hi0
              cases j with
              | zero =>
                cases hs
                refine ⟨_, rfl, .inr ⟨f, shs, ?_, caps.map (fun p => e.ρ p.1), by rw [List.length_map, g1], by rw [g2], fun k t' sh hk => ?_⟩⟩
                · have : (rd ([Ct.i ((0 + j0 : Nat) : Int)] :: rows) 0 0).int.toNat = j0 := by show (((0 + j0 : Nat) : Int)).toNat = j0; omega
                  exact this.symm ▸ hal
                · obtain ⟨p, cs', m1, m2, m3, m4⟩ := g4 k t' sh hk
                  have hpm : p ∈ caps := List.mem_of_getElem? m1
                  have hh := hsat.holds _ _ m2
                  simp only [HO.holds] at hh
                  refine ⟨e.ρ p.1, (cs'.map (CV.den e)).toArray, by rw [List.getElem?_map, m1]; rfl, .inl ⟨p, hpm, rfl⟩, hh, by simp [m3], fun q s hs => ?_⟩
                  obtain ⟨c, hc', hct⟩ := m4 q s hs
                  refine ⟨c.den e, by simp [hc'], ?_⟩
                  show CtHolds w φ2 d s (rd ([Ct.i ((0 + j0 : Nat) : Int)] :: rows) (k + 1) q) _
                  rw [rd_cons_succ]
                  exact hct.mono fun b hb => ⟨hnest p hpm cs' t' m2 b hb, rfl⟩
              | succ j => simp at hs
            · rcases hb with ⟨p, hpm, rfl⟩ | ⟨i, hi, o, ho, hfo⟩
              · obtain ⟨cs', t', sh, row, hl', _⟩ := g3 p hpm
                have hm : p.1 ∈ caps.map (·.1) := List.mem_map.2 ⟨p, hpm, rfl⟩
                exact ⟨heap_some_lt (hsat.holds _ _ hl'), apart p.1 (List.mem_cons_of_mem _ (List.mem_append_left _ hm)) _ hl' _ rfl, .inl ⟨p.1, List.mem_append_right _ (List.mem_append_left _ hm), _, hl', rfl⟩⟩
              · refine ⟨HO.foot_lt (hsat.holds _ _ ho) hfo, apart i (List.mem_cons_of_mem _ (List.mem_append_right _ hi)) o ho b hfo, ?_⟩
                by_cases hown : o.owns e i b
                · cases ho' : isRowAt hp i with
                  | true => exact .inl ⟨i, List.mem_append_right _ (List.mem_append_right _ (List.mem_filter.2 ⟨hi, ho'⟩)), o, ho, hown⟩
                  | false =>
                    exfalso
                    obtain ⟨p, hpm, hip⟩ := List.mem_flatMap.1 hi
                    obtain ⟨cs', t', sh, row, hl', hrow⟩ := g3 p hpm
                    rw [hl'] at hip
                    obtain ⟨c, hcm, hci⟩ := List.mem_flatMap.1 hip
                    obtain ⟨pp, hpp⟩ := ctsOf_ext hrow c hcm i hci
                    rw [ho] at hpp
                    cases o with
                    | grid _ _ => exact hown
                    | row _ _ _ => simp [isRowAt, ho] at ho'
                    | _ => cases hpp
                · exact .inr ⟨i, o, ho, hfo, hown⟩
          · cases h
        · cases h
      · cases h
    · cases h
  · cases h
theorem srcF_ok {hp : Hp} {al : FnAl} {r : RV} {C Y : List Nat} {l : List (List Ct)} (h : srcF hp al r = some (C, Y, l)) {e : Env} {w : World} (hsat : Sat e (hlook hp) w) {T : List Nat} {vx : Value} (hT : ∀ id ∈ T, id ∉ Y)
    (hx : ∀ b, vx.ownBlock = some b → ∃ id0 ∈ T, ∃ o0, hlook hp id0 = some o0 ∧ o0.owns e id0 b) : ∃ φ2, Srce w [.fn al] (r.den e) l φ2 ∧ Fine hp e w (T ++ C) vx φ2 := by
  unfold srcF at h
  split at h
  · rename_i q hq; cases h; exact srcOf_ok hq (by simp) hsat hT hx
  · exact fnSrc_ok h hsat hT hx
theorem opAppendF_ok {P : Program} {o : Oper} {get : Operand → RV} {hp : Hp} {nx : Nat} {out : Out} {t : TypeId} {x y : Operand} {c : Call} {b : Bool} (ho : o.op = .call c) (hc : c.callee = .builtin .append) (ha : c.args.toList = [x, y]) (hat : c.argTypes.toList = [t, t])
    (h : opAppendF P get hp nx t x y = some (b, out)) (hb : b = true) : OpOk P o get hp nx out := by
  have ha' : c.args = #[x, y] := by apply Array.ext'; simpa using ha
  have hat' : c.argTypes = #[t, t] := by apply Array.ext'; simpa using hat
  have hop : o.op.operands = #[x, y] := by rw [ho]; simp [Op.operands, Call.operands, hc, ha']
  unfold opAppendF at h
  split at h
  · rename_i el al hu hal
    split at h
    · rename_i i hi
      split at h
      · rename_i T l1 C Y l2 z hT hS hz
        cases hbq : (Nat.beq i.size 1 && Nat.beq z.cells.size 1 && T.all (fun id => !Y.any (Nat.beq id)) && (T ++ C).all (fun id => Nat.blt id nx)) with
        | false => rw [hbq] at h; cases h
        | true =>
          rw [hbq] at h
          simp only [cond_true, Option.some.injEq, Prod.mk.injEq] at h
          obtain ⟨rfl, rfl⟩ := h
          simp only [decide_eq_true_eq] at hb
          simp only [Bool.and_eq_true, List.all_eq_true] at hbq
          obtain ⟨⟨⟨q1, q2⟩, q4⟩, q5⟩ := hbq
          have q1 := Nat.eq_of_beq_eq_true q1
          have q2 := Nat.eq_of_beq_eq_true q2
          have hTY : ∀ id ∈ T, id ∉ Y := fun id hid hm => by
            have := q4 id hid
            have h2 : Y.any (Nat.beq id) = true := List.any_eq_true.2 ⟨id, hm, Nat.beq_refl id⟩
            rw [h2] at this; cases this
          intro e a w hx hsat K Q hK
          have hx1 := hx x (by rw [hop]; simp)
          have hx2 := hx y (by rw [hop]; simp)
          obtain ⟨φ1, k1, k2, k3⟩ := tgtOf_ok hT hsat C
          obtain ⟨φ2, k4, k5⟩ := srcF_ok hS hsat hTY k3
          obtain ⟨v', w', e', g1, g2, g3⟩ := append_core (P := P) (ty := o.type) (nx := nx) (sh := [.fn al]) hsat hu hi hz q1 q2 (by simp) (fun id hid => Nat.le_of_ble_eq_true (q5 id hid)) k1 k2 k4 k5 hb.1 hb.2
          refine wp_value (w' := w') (v := v') ?_ ?_
          · simp only [execOp, ho, resolve, hc, ha', hat', List.map_toArray, List.map_cons, List.map_nil, hx1, hx2, Sem.run_bind, Sem.run_pure, Result.andThen_ok, invoke, builtin, g1]
          · rw [g2]; exact hK e' w' g3
      · cases h
    · cases h
  · cases h
end Go.Proofs.Ytonlllijdbjkaaa
