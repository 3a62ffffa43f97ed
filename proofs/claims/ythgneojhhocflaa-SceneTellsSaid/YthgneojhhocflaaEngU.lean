/- A symbolic way through the code of a call: slices of an open length: append, make, a slice's part, a row that is written, bytes and texts. No condition. -/
import Derived.Test.YthgneojhhocflaaEngT
set_option linter.unusedVariables false
namespace Go.Proofs.Ythgneojhhocflaa
open Go.RowKit

/-- The kinds of a type's cells. -/
def shT (P : Program) : Nat → TypeId → Option (List Sh)
  | 0, _ => none
  | d + 1, t => match P.underlying t with
    | some (.int k) => some [.int k]
    | some .bool => some [.bool]
    | some .string => some [.str]
    | some (.slice e) => (shT P d e).map fun s => [.sl s]
    | some (.array n e) => (shT P d e).map fun s => (List.replicate n s).flatten
    | some (.struct fs) => (fs.toList.mapM fun f => shT P d f.type).map List.flatten
    | _ => none
def isRowAt (hp : Hp) (id : Nat) : Bool := match hlook hp id with | some (.row _ _ _) => true | _ => false
def tgtOf (hp : Hp) (sh : List Sh) (e : TypeId) : RV → Option (List Nat × List (List Ct))
  | .sv (.one (.val _ (.slice none 0 0))) => some ([], [])
  | .sv (.one (.ext id)) => (match hlook hp id with
    | some (.row sh' t l) => bif shEqL sh' sh && Nat.beq t e then some ([id], l) else none
    | _ => none)
  | .sv (.one (.sl id 0 len cap)) => (match hlook hp id with
    | some (.cells cs t) => bif Nat.beq t e && Nat.beq cs.length (cap * sh.length) && Nat.ble len cap && Nat.ble cap 4096 && cs.all (fun c => c.ids.isEmpty) then (match rowsOf hp sh len (cs.take (len * sh.length)) with
      | some l => some ([id], l)
      | none => none) else none
    | _ => none)
  | _ => none
def srcOf (hp : Hp) (sh : List Sh) : RV → Option (List Nat × List Nat × List (List Ct))
  | .sv (.one (.val _ (.slice none 0 0))) => some ([], [], [])
  | .sv (.one (.ext id)) => (match (hlook hp id).bind HO.ls with
    | some p => bif shEqL p.1 sh then some ([], [id], p.2) else none
    | none => none)
  | .sv (.one (.sl id off m cap)) => (match hlook hp id with
    | some (.cells cs _) => (match rowsOf hp sh m ((cs.drop off).take (m * sh.length)) with
      | some l => some ((((cs.drop off).take (m * sh.length)).flatMap CV.ids).filter (isRowAt hp), id :: ((cs.drop off).take (m * sh.length)).flatMap CV.ids, l)
      | none => none)
    | _ => none)
  | _ => none
def opAppend (P : Program) (get : Operand → RV) (hp : Hp) (nx : Nat) (t : TypeId) (x y : Operand) : Option (Bool × Out) :=
  match P.underlying t with
  | some (.slice e) => (match shT P 8 e, P.info? e with
    | some sh, some i => (match tgtOf hp sh e (get x), srcOf hp sh (get y), i.zero with
      | some (T, l1), some (C, Y, l2), some z =>
        bif Nat.beq i.size sh.length && Nat.beq z.cells.size sh.length && Nat.blt 0 sh.length && T.all (fun id => !Y.any (Nat.beq id)) && (T ++ C).all (fun id => Nat.blt id nx) then
          some (decide (l1.length + l2.length ≤ 9223372036854775807 ∧ (l1.length + l2.length) * i.bytes ≤ 140737488355328), ⟨.sv (.one (.ext nx)), (nx, .row sh e (l1 ++ l2)) :: gones (T ++ C), nx + 1, T ++ C⟩)
        else none
      | _, _, _ => none)
    | _, _ => none)
  | _ => none
theorem tgtOf_ok {hp : Hp} {sh : List Sh} {el : TypeId} {r : RV} {T : List Nat} {l : List (List Ct)} (h : tgtOf hp sh el r = some (T, l)) {e : Env} {w : World} (hsat : Sat e (hlook hp) w) (C : List Nat) :
    ∃ φ1, Tgt hp e w sh el (T ++ C) (r.den e) l φ1 ∧ Fine hp e w (T ++ C) (r.den e) φ1 ∧ (∀ b, (r.den e).ownBlock = some b → ∃ id0 ∈ T, ∃ o0, hlook hp id0 = some o0 ∧ o0.owns e id0 b) := by
  unfold tgtOf at h
  split at h
  · cases h
    exact ⟨fun _ => False, ⟨⟨0, [], World.ownsRow_nil w 0 el sh.length, fun i hi => by simp at hi⟩, fun b hb => (by cases hb), ⟨_, _, _, rfl⟩⟩, fun b hb => False.elim hb, fun b hb => (by cases hb)⟩
  · rename_i id
    split at h
    · rename_i sh' t l' hl
      cases hb : (shEqL sh' sh && Nat.beq t el) with
      | false => rw [hb] at h; cases h
      | true =>
        rw [hb] at h
        simp only [cond_true, Option.some.injEq, Prod.mk.injEq] at h
        obtain ⟨rfl, rfl⟩ := h
        simp only [Bool.and_eq_true] at hb
        obtain rfl := shEqL_spec hb.1
        obtain rfl := Nat.eq_of_beq_eq_true hb.2
        obtain ⟨⟨d, xs, ho, hc⟩, hφ⟩ := hsat.holds _ _ hl
        have hblk : ∀ b, ((RV.sv (.one (.ext id))).den e).ownBlock = some b → ∃ id0 ∈ [id], ∃ o0, hlook hp id0 = some o0 ∧ o0.owns e id0 b := fun b hb => ⟨id, by simp, _, hl, hb⟩
        refine ⟨e.φ id, ⟨⟨d, xs, ho, hc⟩, fun b hb => ?_, ⟨_, _, _, rfl⟩⟩, fun b hb => ⟨(hφ b hb).1, (hφ b hb).2, .inr ⟨id, _, hl, .inr hb, (hφ b hb).2⟩⟩, hblk⟩
        obtain ⟨id0, h1, h2⟩ := hblk b hb
        exact ⟨id0, List.mem_append_left _ h1, h2⟩
    · cases h
  · rename_i id len cap
    split at h
    · rename_i cs t hl
      cases hb : (Nat.beq t el && Nat.beq cs.length (cap * sh.length) && Nat.ble len cap && Nat.ble cap 4096 && cs.all (fun c => c.ids.isEmpty)) with
      | false => rw [hb] at h; cases h
      | true =>
        rw [hb] at h
        simp only [cond_true] at h
        split at h
        · rename_i l' hr
          simp only [Option.some.injEq, Prod.mk.injEq] at h
          obtain ⟨rfl, rfl⟩ := h
          simp only [Bool.and_eq_true] at hb
          obtain ⟨⟨⟨⟨hb1, hb2⟩, hb3⟩, hb4⟩, hb5⟩ := hb
          obtain rfl := Nat.eq_of_beq_eq_true hb1
          have hb2 := Nat.eq_of_beq_eq_true hb2
          have hb3 := Nat.le_of_ble_eq_true hb3
          have hb4 := Nat.le_of_ble_eq_true hb4
          have hc := hsat.holds _ _ hl
          simp only [HO.holds] at hc
          obtain ⟨k1, k2, d, k3⟩ := rowsOf_ok hsat hr
          have hno : ∀ b, ¬ Nest hp e (cs.take (len * sh.length)) b := by
            rintro b ⟨i, hi, _⟩
            obtain ⟨c, hc', hi'⟩ := List.mem_flatMap.1 hi
            have := List.all_eq_true.1 hb5 c (List.mem_of_mem_take hc')
            simp only [List.isEmpty_iff] at this
            rw [this] at hi'; cases hi'
          have hblk : ∀ b, ((RV.sv (.one (.sl id 0 len cap))).den e).ownBlock = some b → ∃ id0 ∈ [id], ∃ o0, hlook hp id0 = some o0 ∧ o0.owns e id0 b := fun b hb => ⟨id, by simp, _, hl, by
            simp only [RV.den, SV.den, CV.den, Value.ownBlock, Option.some.injEq] at hb
            exact hb.symm⟩
          refine ⟨fun _ => False, ⟨⟨d, ((cs.take (len * sh.length)).map (CV.den e)), ?_, fun i hi j s hs => ?_⟩, fun b hb => ?_, ⟨_, _, _, rfl⟩⟩, fun b hb => False.elim hb, hblk⟩
          · refine ⟨by rw [List.length_map, k1, k2], .inr ⟨e.ρ id, cap, (cs.map (CV.den e)).toArray, by rw [k2]; rfl, Nat.zero_le _, hc, by omega, by simp only [maxLen]; omega, by simp [hb2], ?_⟩⟩
            rw [k2]; simp [List.map_take]
          · obtain ⟨c, hc', hh⟩ := k3 i (by omega) j s hs
            exact ⟨c.den e, by rw [List.getElem?_map, hc']; rfl, hh.mono fun b hb => absurd hb (hno b)⟩
          · obtain ⟨id0, h1, h2⟩ := hblk b hb
            exact ⟨id0, List.mem_append_left _ h1, h2⟩
        · cases h
    · cases h
  · cases h
theorem srcOf_ok {hp : Hp} {sh : List Sh} {r : RV} {C Y : List Nat} {l : List (List Ct)} (h : srcOf hp sh r = some (C, Y, l)) (hpos : 0 < sh.length) {e : Env} {w : World} (hsat : Sat e (hlook hp) w) {T : List Nat} {vx : Value} (hT : ∀ id ∈ T, id ∉ Y)
    (hx : ∀ b, vx.ownBlock = some b → ∃ id0 ∈ T, ∃ o0, hlook hp id0 = some o0 ∧ o0.owns e id0 b) : ∃ φ2, Srce w sh (r.den e) l φ2 ∧ Fine hp e w (T ++ C) vx φ2 := by
  -- what other names hang on is not the row's own block
  have apart : ∀ id ∈ Y, ∀ o, hlook hp id = some o → ∀ b, o.foot e id b → vx.ownBlock ≠ some b := by
    intro id hid o ho b hb h
    obtain ⟨id0, h1, o0, h2, h3⟩ := hx b h
    exact hsat.apart id0 o0 h2 id o ho (fun hh => hT id0 h1 (by rw [hh]; exact hid)) b h3 hb
  unfold srcOf at h
  split at h
  · cases h
    exact ⟨fun _ => False, ⟨0, none, 0, [], rfl, fun _ => ⟨rfl, rfl⟩, by simp, fun ad h => (by cases h), fun i hi => by simp at hi⟩, fun b hb => False.elim hb⟩
  · rename_i id
    split at h
    · rename_i p hp'
      cases hb : shEqL p.1 sh with
      | false => rw [hb] at h; cases h
      | true =>
        rw [hb] at h
        simp only [cond_true, Option.some.injEq, Prod.mk.injEq] at h
        obtain ⟨rfl, rfl, rfl⟩ := h
        obtain rfl := shEqL_spec hb
        obtain ⟨ob, hob, hls⟩ := Option.bind_eq_some_iff.1 hp'
        have hh := hsat.holds _ _ hob
        obtain ⟨d, a, cap, hv, h1, h2, h0, hc⟩ := HO.rowsAt hh hls
        have hφ : ∀ b, e.φ id b → b < w.heap.size ∧ ob.foot e id b ∧ ¬ ob.owns e id b := by
          cases ob with
          | cells _ _ => cases hls
          | grid sh l => exact fun b hb => ⟨hh.2 b hb, hb, fun h => h⟩
          | row sh t l => exact fun b hb => ⟨(hh.2 b hb).1, .inr hb, (hh.2 b hb).2⟩
          | elem _ _ _ => cases hls
          | gone => cases hls
        have cellAt : ∀ bk off, a = some ⟨bk, off, none⟩ → ∀ q, q < p.2.length * p.1.length → ∃ u, w.cell? ⟨bk, off + q, none⟩ = some u := by
          intro bk off ha q hq
          have hj : q % p.1.length < p.1.length := Nat.mod_lt _ hpos
          have hi' : q / p.1.length < p.2.length := Nat.div_lt_of_lt_mul (by rw [Nat.mul_comm]; exact hq)
          obtain ⟨bk', off', ha', _, hcell⟩ := hc _ hi'
          rw [ha] at ha'
          cases ha'
          obtain ⟨u, hu, _⟩ := hcell (q % p.1.length) _ (List.getElem?_eq_getElem hj)
          exact ⟨u, by rw [← hu, Nat.add_assoc, Nat.div_add_mod']⟩
        refine ⟨e.φ id, ⟨d, a, cap, (List.range (p.2.length * p.1.length)).map fun q => match a with | some ad => (w.cell? (ad.add q)).getD undef | none => undef, hv, fun ha => ⟨by have := h0 ha; omega, h0 ha⟩, by simp, fun ad ha q u hu => ?_, fun i hi j s hs => ?_⟩, fun b hb => ⟨(hφ b hb).1, apart id (by simp) ob hob b (hφ b hb).2.1, .inr ⟨id, ob, hob, (hφ b hb).2.1, (hφ b hb).2.2⟩⟩⟩
        · subst ha
          rw [List.getElem?_map] at hu
          obtain ⟨q', hq', rfl⟩ := Option.map_eq_some_iff.1 hu
          have hlt : q < p.2.length * p.1.length := by
            rcases Nat.lt_or_ge q (p.2.length * p.1.length) with h | h
            · exact h
            · rw [List.getElem?_eq_none (by simpa using h)] at hq'; cases hq'
          rw [List.getElem?_range hlt] at hq'
          cases hq'
          have hlen : 0 < p.2.length := by
            rcases Nat.eq_zero_or_pos p.2.length with h | h
            · rw [h] at hlt; simp at hlt
            · exact h
          obtain ⟨bk, off, ha, _⟩ := hc 0 hlen
          cases ha
          obtain ⟨u, hu'⟩ := cellAt bk off rfl q hlt
          show w.cell? _ = some ((w.cell? _).getD undef)
          rw [addr_add, hu']; rfl
        · obtain ⟨bk, off, ha, _, hcell⟩ := hc i hi
          subst ha
          obtain ⟨u, hu, hhu⟩ := hcell j s hs
          have hj : j < p.1.length := by
            rcases Nat.lt_or_ge j p.1.length with h | h
            · exact h
            · rw [List.getElem?_eq_none h] at hs; cases hs
          have hlt : i * p.1.length + j < p.2.length * p.1.length := by
            have : (i + 1) * p.1.length ≤ p.2.length * p.1.length := Nat.mul_le_mul_right _ hi
            rw [Nat.succ_mul] at this
            omega
          refine ⟨u, ?_, hhu⟩
          rw [List.getElem?_map, List.getElem?_range hlt]
          show some ((w.cell? _).getD undef) = some u
          rw [addr_add, ← Nat.add_assoc, hu]; rfl
    · cases h
  · rename_i id off m cap
    split at h
    · rename_i cs t hl
      split at h
      · rename_i l' hr
        simp only [Option.some.injEq, Prod.mk.injEq] at h
        obtain ⟨rfl, rfl, rfl⟩ := h
        have hc := hsat.holds _ _ hl
        obtain ⟨k1, k2, d, k3⟩ := rowsOf_ok hsat hr
        refine ⟨Nest hp e ((cs.drop off).take (m * sh.length)), ⟨d, some ⟨e.ρ id, off, none⟩, cap, ((cs.drop off).take (m * sh.length)).map (CV.den e), by rw [k2]; rfl, fun h => (by cases h), by simp only [List.length_map, k1, k2], fun ad had j u hu => ?_, fun i hi j s hs => ?_⟩, fun b hb => ?_⟩
        · cases had
          rw [List.getElem?_map] at hu
          obtain ⟨c, hc', rfl⟩ := Option.map_eq_some_iff.1 hu
          rw [List.getElem?_take] at hc'
          split at hc'
          · rw [List.getElem?_drop] at hc'
            have := holds_cells_cell hc (off + j) c hc'
            rw [addr_add]
            rw [Nat.zero_add] at this
            exact this
          · cases hc'
        · obtain ⟨c, hc', hh⟩ := k3 i (by omega) j s hs
          exact ⟨c.den e, by rw [List.getElem?_map, hc']; rfl, hh⟩
        · obtain ⟨i, hi, o, ho, hf⟩ := hb
          refine ⟨HO.foot_lt (hsat.holds _ _ ho) hf, apart i (List.mem_cons_of_mem _ hi) o ho b hf, ?_⟩
          by_cases hown : o.owns e i b
          · cases ho' : isRowAt hp i with
            | true => exact .inl ⟨i, List.mem_append_right _ (List.mem_filter.2 ⟨hi, ho'⟩), o, ho, hown⟩
            | false =>
              -- cells named in a row's cells: none
              exfalso
              obtain ⟨c, hcm, hci⟩ := List.mem_flatMap.1 hi
              have := rowsOf_ext hr c hcm i hci
              obtain ⟨p, hp'⟩ := this
              rw [ho] at hp'
              cases o with
              | cells _ _ => cases hp'
              | grid _ _ => exact hown
              | row _ _ _ => simp [isRowAt, ho] at ho'
              | elem _ _ _ => cases hp'
              | gone => cases hp'
          · exact .inr ⟨i, o, ho, hf, hown⟩
      · cases h
    · cases h
  · cases h
end Go.Proofs.Ythgneojhhocflaa
