/- A symbolic way through the code of a call: a place under other names. No condition. -/
import Derived.Test.YthgneojhhocflaaEng9
set_option linter.unusedVariables false
namespace Go.Proofs.Ythgneojhhocflaa
open Go.RowKit

theorem blt_spec {i n : Nat} (h : Nat.blt i n = true) : i < n := Nat.le_of_ble_eq_true h
theorem CV.unk_den (e : Env) (c : CV) : c.unk.den e = c.den e := by cases c <;> rfl
theorem SV.unk_den (e : Env) (s : SV) : s.unk.den e = s.den e := by
  cases s with
  | one c => exact c.unk_den e
  | agg cs => simp [SV.unk, SV.den, Function.comp_def, CV.unk_den]
theorem RV.unk_den (e : Env) (r : RV) : r.unk.den e = r.den e := by
  cases r with
  | sv s => exact s.unk_den e
  | tup l => simp [RV.unk, RV.den, Function.comp_def, SV.unk_den]
  | dead => rfl
theorem CV.unk_ids (c : CV) : c.unk.ids = c.ids := by cases c <;> rfl
theorem SV.unk_ids (s : SV) : s.unk.ids = s.ids := by
  cases s with
  | one c => exact c.unk_ids
  | agg cs => simp [SV.unk, SV.ids, List.flatMap_map, CV.unk_ids]
theorem RV.unk_ids (r : RV) : r.unk.ids = r.ids := by
  cases r with
  | sv s => exact s.unk_ids
  | tup l => simp [RV.unk, RV.ids, List.flatMap_map, SV.unk_ids]
  | dead => rfl
theorem RV.unk_dead {r : RV} : r.unk.isDead = r.isDead := by cases r <;> rfl
theorem HO.unk_holds {e : Env} {w : World} {id : Nat} {o : HO} : o.unk.holds e w id ↔ o.holds e w id := by
  cases o with
  | cells cs t => simp [HO.unk, HO.holds, Function.comp_def, CV.unk_den]
  | _ => rfl
theorem HO.unk_foot {e : Env} {id b : Nat} {o : HO} : o.unk.foot e id b ↔ o.foot e id b := by cases o <;> exact Iff.rfl
theorem HO.unk_owns {e : Env} {id b : Nat} {o : HO} : o.unk.owns e id b ↔ o.owns e id b := by cases o <;> exact Iff.rfl

/-- The new names' meaning out of the old one's. -/
structure Renamed (n0 : Nat) (rn : List (Nat × Option Nat)) (m : Nat) (fz : Nat → Prop) (φz : Nat → Nat → Prop) (e e' e'' : Env) : Prop where
  low : ∀ id, id < n0 → e'.same e'' id
  high : ∀ id, m ≤ id → e.same e'' id
  mid : ∀ id i, n0 ≤ id → id < m → rnL rn id = some (some i) → e''.ρ id = e'.ρ i ∧ e''.σ id = e'.σ i ∧ (¬ fz id → e''.φ id = e'.φ i) ∧ (fz id → e''.φ id = φz id)
  nil : ∀ id, n0 ≤ id → id < m → rnL rn id = some none → e''.σ id = (none, 0, 0) ∧ e''.φ id = fun _ => False
open Classical in
theorem renamed_ex (n0 : Nat) (rn : List (Nat × Option Nat)) (m : Nat) (hm : n0 ≤ m) (fz : Nat → Prop) (φz : Nat → Nat → Prop) (e e' : Env) (hlow : ∀ id, id < n0 → e.same e' id) : ∃ e'', Renamed n0 rn m fz φz e e' e'' := by
  refine ⟨⟨fun id => if id < n0 then e'.ρ id else if id < m then (match rnL rn id with | some (some i) => e'.ρ i | _ => 0) else e.ρ id,
    fun id => if id < n0 then e'.σ id else if id < m then (match rnL rn id with | some (some i) => e'.σ i | _ => (none, 0, 0)) else e.σ id,
    fun id => if id < n0 then e'.φ id else if id < m then (match rnL rn id with | some (some i) => if fz id then φz id else e'.φ i | _ => fun _ => False) else e.φ id⟩, ?_, ?_, ?_, ?_⟩
  · intro id hid; simp [Env.same, hid]
  · intro id hid
    have h1 : ¬ id < n0 := by omega
    have h2 : ¬ id < m := by omega
    simp [Env.same, h1, h2]
  · intro id i h1 h2 h3
    have h1' : ¬ id < n0 := by omega
    refine ⟨by simp [h1', h2, h3], by simp [h1', h2, h3], fun h4 => by simp [h1', h2, h3, h4], fun h4 => by simp [h1', h2, h3, h4]⟩
  · intro id h1 h2 h3
    have h1' : ¬ id < n0 := by omega
    simp [h1', h2, h3]
section
variable {n0 : Nat} {rn : List (Nat × Option Nat)} {m : Nat} {fz : Nat → Prop} {φz : Nat → Nat → Prop} {e e' e'' : Env}
theorem renId_low {id : Nat} (h : id < n0) : renId n0 rn id = some (some id) := by
  unfold renId; rw [show Nat.blt id n0 = true from Nat.ble_eq_true_of_le h]; rfl
theorem renId_high {id : Nat} (h : ¬ id < n0) : renId n0 rn id = rnL rn id := by
  unfold renId
  cases hb : Nat.blt id n0 with
  | true => exact absurd (blt_spec hb) h
  | false => rfl
theorem Renamed.at (hr : Renamed n0 rn m fz φz e e' e'') {id i : Nat} (hid : id < m) (h : renId n0 rn id = some (some i)) : e''.ρ id = e'.ρ i ∧ e''.σ id = e'.σ i := by
  by_cases hl : id < n0
  · rw [renId_low hl] at h
    cases h
    exact ⟨(hr.low id hl).1, (hr.low id hl).2.1⟩
  · rw [renId_high hl] at h
    exact ⟨(hr.mid id i (by omega) hid h).1, (hr.mid id i (by omega) hid h).2.1⟩
theorem okId_spec {id : Nat} (h : okId n0 rn m id = true) : id < m ∧ renId n0 rn id = some (some (ren1 n0 rn id)) := by
  simp only [okId, Bool.and_eq_true] at h
  refine ⟨blt_spec h.1, ?_⟩
  have h2 := h.2
  unfold ren1
  split at h2
  · rename_i i hi; rw [hi]
  · cases h2
theorem CV.ren_den (hr : Renamed n0 rn m fz φz e e' e'') {c : CV} (hok : c.okR n0 rn m = true) : (c.ren n0 rn).den e' = c.den e'' := by
  cases c with
  | val k v => rfl
  | ptr id off =>
    obtain ⟨h1, h2⟩ := okId_spec hok
    simp only [CV.ren, CV.den, (hr.at h1 h2).1]
  | eptr id off =>
    obtain ⟨h1, h2⟩ := okId_spec hok
    simp only [CV.ren, CV.den, Env.blk, Env.off, (hr.at h1 h2).2]
  | sl id off len cap =>
    obtain ⟨h1, h2⟩ := okId_spec hok
    simp only [CV.ren, CV.den, (hr.at h1 h2).1]
  | ext id =>
    simp only [CV.okR, Bool.and_eq_true] at hok
    obtain ⟨h1, h2⟩ := hok
    have h1 := blt_spec h1
    simp only [CV.ren]
    split at h2
    · rename_i x hx
      cases x with
      | some i => rw [hx]; simp only [CV.den, Env.slv, (hr.at h1 hx).2]
      | none =>
        rw [hx]
        have hl : ¬ id < n0 := fun h => by rw [renId_low h] at hx; cases hx
        rw [renId_high hl] at hx
        simp only [CV.den, Env.slv, (hr.nil id (by omega) h1 hx).1]
    · cases h2
  | fn f caps =>
    simp only [CV.ren, CV.den, Value.func.injEq, true_and, List.map_map]
    congr 1
    refine List.map_congr_left fun p hp => ?_
    obtain ⟨h1, h2⟩ := okId_spec (List.all_eq_true.1 hok p hp)
    simp only [Function.comp, Env.ptr, (hr.at h1 h2).1]
  | bm f cs =>
    have : (cs.map (bmMap (ren1 n0 rn))).map (bmDen e') = cs.map (bmDen e'') := by
      rw [List.map_map]
      refine List.map_congr_left fun p hp => ?_
      cases p with
      | inl v => rfl
      | inr id =>
        obtain ⟨h1, h2⟩ := okId_spec (List.all_eq_true.1 (List.all_eq_true.1 hok _ hp) id (by simp [bmIds]))
        simp only [Function.comp, bmMap, bmDen, Env.slv, (hr.at h1 h2).2]
      | sl id off len cap =>
        obtain ⟨h1, h2⟩ := okId_spec (List.all_eq_true.1 (List.all_eq_true.1 hok _ hp) id (by simp [bmIds]))
        simp only [Function.comp, bmMap, bmDen, (hr.at h1 h2).1]
    simp only [CV.ren, CV.den, this]
theorem SV.ren_den (hr : Renamed n0 rn m fz φz e e' e'') {s : SV} (hok : s.okR n0 rn m = true) : (s.ren n0 rn).den e' = s.den e'' := by
  cases s with
  | one c => exact CV.ren_den hr hok
  | agg cs =>
    simp only [SV.ren, SV.den, List.map_map]
    congr 2
    exact List.map_congr_left fun c hc => CV.ren_den hr (List.all_eq_true.1 hok c hc)
theorem RV.ren_den (hr : Renamed n0 rn m fz φz e e' e'') {r : RV} (hok : r.okR n0 rn m = true) : (r.ren n0 rn).den e' = r.den e'' := by
  cases r with
  | sv s => exact SV.ren_den hr hok
  | tup l =>
    simp only [RV.ren, RV.den, List.map_map]
    congr 2
    exact List.map_congr_left fun s hs => SV.ren_den hr (List.all_eq_true.1 hok s hs)
  | dead => rfl
theorem CV.okR_ids {c : CV} (hok : c.okR n0 rn m = true) : ∀ id ∈ c.ids, id < m := by
  cases c with
  | val k v => intro id h; cases h
  | ptr id off => intro i h; simp only [CV.ids, List.mem_singleton] at h; subst h; exact (okId_spec hok).1
  | eptr id off => intro i h; simp only [CV.ids, List.mem_singleton] at h; subst h; exact (okId_spec hok).1
  | sl id off len cap => intro i h; simp only [CV.ids, List.mem_singleton] at h; subst h; exact (okId_spec hok).1
  | ext id =>
    intro i h
    simp only [CV.ids, List.mem_singleton] at h
    subst h
    simp only [CV.okR, Bool.and_eq_true] at hok
    exact blt_spec hok.1
  | fn f caps =>
    intro i h
    simp only [CV.ids, List.mem_map] at h
    obtain ⟨p, hp, rfl⟩ := h
    exact (okId_spec (List.all_eq_true.1 hok p hp)).1
  | bm f cs =>
    intro i h
    simp only [CV.ids, List.mem_flatMap] at h
    obtain ⟨p, hp, hi⟩ := h
    exact (okId_spec (List.all_eq_true.1 (List.all_eq_true.1 hok p hp) i hi)).1
theorem SV.okR_ids {s : SV} (hok : s.okR n0 rn m = true) : ∀ id ∈ s.ids, id < m := by
  cases s with
  | one c => exact CV.okR_ids hok
  | agg cs =>
    intro id h
    obtain ⟨c, hc, hi⟩ := List.mem_flatMap.1 h
    exact CV.okR_ids (List.all_eq_true.1 hok c hc) id hi
theorem RV.okR_ids {r : RV} (hok : r.okR n0 rn m = true) : ∀ id ∈ r.ids, id < m := by
  cases r with
  | sv s => exact SV.okR_ids hok
  | tup l =>
    intro id h
    obtain ⟨c, hc, hi⟩ := List.mem_flatMap.1 h
    exact SV.okR_ids (List.all_eq_true.1 hok c hc) id hi
  | dead => intro id h; cases h
theorem HO.okR_ids {o : HO} (hok : o.okR n0 rn m = true) : ∀ id ∈ o.ids, id < m := by
  cases o with
  | cells cs t =>
    intro id h
    obtain ⟨c, hc, hi⟩ := List.mem_flatMap.1 h
    exact CV.okR_ids (List.all_eq_true.1 hok c hc) id hi
  | elem id i w => intro j h; simp only [HO.ids, List.mem_singleton] at h; subst h; exact (okId_spec hok).1
  | _ => intro id h; cases h
theorem landFr_spec : ∀ {l l' : List RV}, l.length = l'.length → (landFr n0 rn l l').1 = (landFr n0 rn l l').2 → ∀ (i : Nat) r, l[i]? = some r → r.isDead = true ∨ ∃ r', l'[i]? = some r' ∧ r.ren n0 rn = r'.unk := by
  intro l
  induction l with
  | nil => intro l' _ _ i r h; simp at h
  | cons a l ih =>
    intro l' hl h i r hr
    cases l' with
    | nil => cases hl
    | cons a' l' =>
      simp only [List.length_cons, Nat.add_right_cancel_iff] at hl
      have hd : a = .dead ∨ (landFr n0 rn (a :: l) (a' :: l')) = (a.ren n0 rn :: (landFr n0 rn l l').1, a'.unk :: (landFr n0 rn l l').2) := by
        cases a with
        | dead => exact .inl rfl
        | sv s => exact .inr rfl
        | tup t => exact .inr rfl
      rcases hd with rfl | hd
      · cases i with
        | zero => simp only [List.getElem?_cons_zero, Option.some.injEq] at hr; subst hr; exact .inl rfl
        | succ i => exact ih hl h i r (by simpa using hr)
      · rw [hd] at h
        simp only [List.cons.injEq] at h
        cases i with
        | zero => simp only [List.getElem?_cons_zero, Option.some.injEq] at hr; subst hr; exact .inr ⟨a', rfl, h.1⟩
        | succ i => exact ih hl h.2 i r (by simpa using hr)
theorem landHp_spec {hp : Hp} : ∀ {l : Hp} {p : List HO × List HO}, landHp n0 rn hp l = some p → p.1 = p.2 → ∀ id o, (id, o) ∈ l →
    (∃ i o', renId n0 rn id = some (some i) ∧ hlook hp i = some o' ∧ o.ren n0 rn = seen (Nat.blt id n0) o o') ∨ (renId n0 rn id = some none ∧ o = nilled o) := by
  intro l
  induction l with
  | nil => intro p _ _ id o h; cases h
  | cons x l ih =>
    obtain ⟨id0, o0⟩ := x
    intro p h hp' id o hm
    simp only [landHp] at h
    split at h
    · rename_i q hq
      split at h
      · rename_i i hi
        split at h
        · rename_i o' ho'
          cases h
          simp only [List.cons.injEq] at hp'
          rcases List.mem_cons.1 hm with hm | hm
          · cases hm; exact .inl ⟨i, o', hi, ho', hp'.1⟩
          · exact ih hq hp'.2 id o hm
        · cases h
      · rename_i hi
        cases h
        simp only [List.cons.injEq] at hp'
        rcases List.mem_cons.1 hm with hm | hm
        · cases hm; exact .inr ⟨hi, hp'.1⟩
        · exact ih hq hp'.2 id o hm
      · cases h
    · cases h
theorem distinct_spec : ∀ {l : List Nat}, distinct l = true → l.Nodup := by
  intro l
  induction l with
  | nil => intro _; simp
  | cons i l ih =>
    intro h
    simp only [distinct, Bool.and_eq_true] at h
    exact List.nodup_cons.2 ⟨any_beq h.1, ih h.2⟩
theorem srcs_mem : ∀ {l : Hp} {id i : Nat} {o : HO}, (id, o) ∈ l → renId n0 rn id = some (some i) → i ∈ srcs n0 rn l := by
  intro l
  induction l with
  | nil => intro id i o h; cases h
  | cons x l ih =>
    obtain ⟨id0, o0⟩ := x
    intro id i o h hi
    simp only [srcs]
    rcases List.mem_cons.1 h with h | h
    · cases h; rw [hi]; exact List.mem_cons_self
    · split
      · exact List.mem_cons_of_mem _ (ih h hi)
      · exact ih h hi
theorem srcs_inj : ∀ {l : Hp}, (srcs n0 rn l).Nodup → (l.map (·.1)).Nodup → ∀ {id id' i : Nat} {o o' : HO}, (id, o) ∈ l → (id', o') ∈ l → renId n0 rn id = some (some i) → renId n0 rn id' = some (some i) → id = id' := by
  intro l
  induction l with
  | nil => intro _ _ id id' i o o' h; cases h
  | cons x l ih =>
    obtain ⟨id0, o0⟩ := x
    intro hs hk id id' i o o' h h' hi hi'
    simp only [List.map_cons, List.nodup_cons] at hk
    simp only [srcs] at hs
    rcases List.mem_cons.1 h with h | h <;> rcases List.mem_cons.1 h' with h' | h'
    · cases h; cases h'; rfl
    · cases h
      rw [hi] at hs
      exact absurd (srcs_mem h' hi') (List.nodup_cons.1 hs).1
    · cases h'
      rw [hi'] at hs
      exact absurd (srcs_mem h hi) (List.nodup_cons.1 hs).1
    · refine ih ?_ hk.2 h h' hi hi'
      split at hs
      · exact (List.nodup_cons.1 hs).2
      · exact hs
end
theorem lent_spec {n0 : Nat} {rn : List (Nat × Option Nat)} {hp : Hp} {id : Nat} {o : HO} (h : lentB n0 rn hp (id, o) = true) : ∃ sh l i sh' l', o = .grid sh l ∧ renId n0 rn id = some (some i) ∧ hlook hp i = some (.grid sh' l') := by
  unfold lentB at h
  dsimp only at h
  split at h
  · split at h
    · rename_i hi
      split at h
      · rename_i hg; exact ⟨_, _, _, _, _, rfl, hi, hg⟩
      · cases h
    · cases h
  · cases h
theorem filter_nodup {S : Hp} {q : Nat × HO → Bool} (h : (S.map (·.1)).Nodup) : ((S.filter q).map (·.1)).Nodup := h.sublist (List.Sublist.map _ List.filter_sublist)
def Frozen (S s : St) (n0 : Nat) (rn : List (Nat × Option Nat)) (id : Nat) : Prop := n0 ≤ id ∧ ∃ sh l i sh' t l', hlook S.hp id = some (.grid sh l) ∧ rnL rn id = some (some i) ∧ hlook s.hp i = some (.row sh' t l')
def frozenφ (s : St) (e' : Env) (rn : List (Nat × Option Nat)) (id b : Nat) : Prop := ∃ i o, rnL rn id = some (some i) ∧ hlook s.hp i = some o ∧ o.foot e' i b
theorem land_ok {n0 base : Nat} {H0 : Nat → Option HO} {rn : List (Nat × Option Nat)} {S s : St} {e e' : Env} {a : Act} {w : World} {p : List HO × List HO} (hb : landB n0 rn S s = true) (hh : landHp n0 rn s.hp S.hp = some p)
    (hfr : (landFr n0 rn S.fr s.fr).1 = (landFr n0 rn S.fr s.fr).2) (hhp : p.1 = p.2) (hs : Stands n0 base H0 s e' a w) (hlow : ∀ id, id < n0 → e.same e' id) :
    Names S.fr S.hp S.nx ∧ ∃ e'', (∀ id, id < n0 → e'.same e'' id) ∧ (∀ id, S.nx ≤ id → e.same e'' id) ∧ Stands n0 base H0 S e'' a w := by
  simp only [landB, Bool.and_eq_true, List.all_eq_true, Bool.or_eq_true] at hb
  obtain ⟨⟨⟨⟨⟨⟨b1, b2⟩, b3⟩, b4⟩, b5⟩, b6⟩, b7⟩ := hb
  have b1 := Nat.eq_of_beq_eq_true b1
  have b4 := distinct_spec b4
  have b5 := distinct_spec b5
  have b7 := Nat.le_of_ble_eq_true b7
  obtain ⟨e'', hr⟩ := renamed_ex n0 rn S.nx b7 (Frozen S s n0 rn) (frozenφ s e' rn) e e' hlow
  have inHp : ∀ id o, hlook S.hp id = some o → id < S.nx ∧ o.okR n0 rn S.nx = true ∧ ((∃ i o', renId n0 rn id = some (some i) ∧ (n0 ≤ id → n0 ≤ i ∨ (∃ sh l sh' l', o = .grid sh l ∧ o' = .grid sh' l') ∨ i ∈ S.W) ∧ hlook s.hp i = some o' ∧ o.ren n0 rn = seen (Nat.blt id n0) o o') ∨ (renId n0 rn id = some none ∧ o = nilled o)) := by
    intro id o ho
    have hm := hlook_mem ho
    obtain ⟨⟨h1, h2⟩, h3⟩ := b3 _ hm
    refine ⟨blt_spec h1, h2, ?_⟩
    rcases landHp_spec hh hhp id o hm with ⟨i, o', k1, k2, k3⟩ | ⟨k1, k2⟩
    · refine .inl ⟨i, o', k1, fun hn => ?_, k2, k3⟩
      simp only at h3
      rcases h3 with (((h3 | h3) | h3) | h3) | h3
      · have := blt_spec h3; omega
      · have := Nat.le_of_ble_eq_true h3
        unfold ren1 at this
        rw [k1] at this
        exact .inl this
      · rw [k1] at h3; cases h3
      · obtain ⟨sh, l, i', sh', l', g1, g2, g3⟩ := lent_spec h3
        rw [k1] at g2
        cases g2
        rw [k2] at g3
        cases g3
        exact .inr (.inl ⟨sh, l, sh', l', g1, rfl⟩)
      · unfold handB at h3
        rw [k1] at h3
        obtain ⟨q, hq, hbq⟩ := List.any_eq_true.1 h3
        rw [Nat.eq_of_beq_eq_true hbq]
        exact .inr (.inr hq)
    · exact .inr ⟨k1, k2⟩
  -- a name's object, and where it lies
  have key : ∀ id o, hlook S.hp id = some o → o.holds e'' w id ∧
      ((∃ i o', renId n0 rn id = some (some i) ∧ (n0 ≤ id → n0 ≤ i ∨ (∃ sh l sh' l', o = .grid sh l ∧ o' = .grid sh' l') ∨ i ∈ S.W) ∧ hlook s.hp i = some o' ∧ (∀ b, o.owns e'' id b → o'.owns e' i b) ∧ (∀ b, o.foot e'' id b → o'.foot e' i b)) ∨ ∀ b, ¬ o.foot e'' id b) := by
    intro id o ho
    obtain ⟨h1, h2, h3⟩ := inHp id o ho
    rcases h3 with ⟨i, o', k1, k2, k3, k4⟩ | ⟨k1, k2⟩
    · have hat := hr.at h1 k1
      have hold := hs.sat.holds i o' k3
      have hslv : e''.slv id = e'.slv i := by simp only [Env.slv, hat.2]
      -- what it hangs on
      have hφ : (¬ Frozen S s n0 rn id → e''.φ id = e'.φ i) ∧ (Frozen S s n0 rn id → n0 ≤ id → e''.φ id = frozenφ s e' rn id) := by
        by_cases hl : id < n0
        · rw [renId_low hl] at k1
          cases k1
          exact ⟨fun _ => (hr.low id hl).2.2, fun _ h => by omega⟩
        · rw [renId_high hl] at k1
          have := hr.mid id i (by omega) h1 k1
          exact ⟨this.2.2.1, fun h _ => this.2.2.2 h⟩
      cases o with
      | cells cs t =>
        have hu : HO.cells (cs.map (CV.ren n0 rn)) t = o'.unk := by
          cases o' <;> exact k4
        cases o' with
        | cells cs' t' =>
          simp only [HO.unk, HO.cells.injEq] at hu
          obtain ⟨hu1, rfl⟩ := hu
          have hden : cs.map (CV.den e'') = cs'.map (CV.den e') := by
            have g1 : cs.map (CV.den e'') = (cs.map (CV.ren n0 rn)).map (CV.den e') := by
              rw [List.map_map]
              exact List.map_congr_left fun c hc => (CV.ren_den hr (List.all_eq_true.1 h2 c hc)).symm
            rw [g1, hu1, List.map_map]
            exact List.map_congr_left fun c _ => CV.unk_den e' c
          refine ⟨?_, .inl ⟨i, _, k1, k2, k3, fun b hb => ?_, fun b hb => ?_⟩⟩
          · simp only [HO.holds] at hold ⊢
            rw [hat.1, hden]; exact hold
          · have : b = e''.ρ id := hb
            rw [hat.1] at this; exact this
          · have : b = e''.ρ id := hb
            rw [hat.1] at this; exact this
        | grid _ _ => cases hu
        | row _ _ _ => cases hu
        | elem _ _ _ => cases hu
        | gone => cases hu
      | grid sh l =>
        cases o' with
        | cells _ _ => cases k4
        | grid sh' l' =>
          have k4' : HO.grid sh l = HO.grid sh' l' := k4
          cases k4'
          have hnf : ¬ Frozen S s n0 rn id := by
            rintro ⟨hge, _, _, i', _, _, _, _, g2, g3⟩
            by_cases hl : id < n0
            · omega
            · rw [renId_high hl] at k1
              rw [k1] at g2
              cases g2
              rw [k3] at g3
              cases g3
          have hφ' := hφ.1 hnf
          refine ⟨?_, .inl ⟨i, _, k1, k2, k3, fun b hb => hb, fun b hb => ?_⟩⟩
          · simp only [HO.holds] at hold ⊢
            rw [hφ', hslv]; exact hold
          · have hb' : e''.φ id b := hb
            rw [hφ'] at hb'; exact hb'
        | row sh' t' l' =>
          cases hbl : Nat.blt id n0 with
          | true => rw [hbl] at k4; cases k4
          | false =>
            rw [hbl] at k4
            have k4' : HO.grid sh l = HO.grid sh' l' := k4
            cases k4'
            have hl : ¬ id < n0 := fun h => by rw [show Nat.blt id n0 = true from Nat.ble_eq_true_of_le h] at hbl; cases hbl
            have k1' := k1
            rw [renId_high hl] at k1'
            have hfz : Frozen S s n0 rn id := ⟨by omega, _, _, i, _, _, _, ho, k1', k3⟩
            have hφ' := hφ.2 hfz (by omega)
            have hφeq : ∀ b, e''.φ id b ↔ (HO.row sh t' l).foot e' i b := by
              intro b
              rw [hφ']
              constructor
              · rintro ⟨i', o1, g1, g2, g3⟩
                rw [k1'] at g1
                cases g1
                rw [k3] at g2
                cases g2
                exact g3
              · intro h; exact ⟨i, _, k1', k3, h⟩
            obtain ⟨d, hrows⟩ := HO.rowsAt hold (p := (sh, l)) rfl
            refine ⟨⟨⟨d, ?_⟩, fun b hb => HO.foot_lt hold ((hφeq b).1 hb)⟩, .inl ⟨i, _, k1, k2, k3, fun b hb => False.elim hb, fun b hb => (hφeq b).1 hb⟩⟩
            rw [hslv]
            exact hrows.mono (fun b hb => ⟨(hφeq b).2 hb, rfl⟩) (fun _ _ _ => CtHolds.mono fun b hb => ⟨(hφeq b).2 (.inr hb), rfl⟩)
        | elem _ _ _ => cases k4
        | gone => cases k4
      | row sh t l =>
        have hu : HO.row sh t l = o'.unk := by cases o' <;> exact k4
        cases o' with
        | row sh' t' l' =>
          cases hu
          have hnf : ¬ Frozen S s n0 rn id := by
            rintro ⟨_, _, _, _, _, _, _, g1, _⟩
            rw [ho] at g1; cases g1
          have hφ' := hφ.1 hnf
          refine ⟨?_, .inl ⟨i, _, k1, k2, k3, fun b hb => ?_, fun b hb => ?_⟩⟩
          · simp only [HO.holds] at hold ⊢
            rw [hφ', hslv]; exact hold
          · have hb' : (e''.slv id).ownBlock = some b := hb
            rw [hslv] at hb'; exact hb'
          · rcases hb with hb | hb
            · rw [hslv] at hb; exact .inl hb
            · rw [hφ'] at hb; exact .inr hb
        | cells _ _ => cases hu
        | grid _ _ => cases hu
        | elem _ _ _ => cases hu
        | gone => cases hu
      | elem id1 q wd =>
        have hu : HO.elem (ren1 n0 rn id1) q wd = o'.unk := by cases o' <;> exact k4
        cases o' with
        | elem id2 q2 wd2 =>
          simp only [HO.unk, HO.elem.injEq] at hu
          obtain ⟨rfl, rfl, rfl⟩ := hu
          obtain ⟨g1, g2⟩ := okId_spec h2
          refine ⟨?_, .inr fun b hb => hb⟩
          simp only [HO.holds] at hold ⊢
          rw [(hr.at g1 g2).2, hat.2]; exact hold
        | cells _ _ => cases hu
        | grid _ _ => cases hu
        | row _ _ _ => cases hu
        | gone => cases hu
      | gone => exact ⟨trivial, .inr fun b hb => hb⟩
    · have hl : ¬ id < n0 := fun h => by rw [renId_low h] at k1; cases k1
      rw [renId_high hl] at k1
      obtain ⟨g1, g2⟩ := hr.nil id (by omega) h1 k1
      have hslv : e''.slv id = .slice none 0 0 := by simp only [Env.slv, g1]
      cases o with
      | row sh t l =>
        simp only [nilled, HO.row.injEq, true_and] at k2
        subst k2
        refine ⟨⟨⟨0, [], ?_, fun i hi => by simp at hi⟩, fun b hb => by rw [g2] at hb; exact False.elim hb⟩, .inr fun b hb => ?_⟩
        · rw [hslv]; exact World.ownsRow_nil w 0 t sh.length
        · rcases hb with hb | hb
          · rw [hslv] at hb; cases hb
          · rw [g2] at hb; exact hb
      | grid sh l =>
        simp only [nilled, HO.grid.injEq, true_and] at k2
        subst k2
        refine ⟨⟨⟨0, none, 0, by rw [hslv]; rfl, Nat.le_refl _, by omega, fun _ => rfl, fun i hi => by simp at hi⟩, fun b hb => by rw [g2] at hb; exact False.elim hb⟩, .inr fun b hb => ?_⟩
        have hb' : e''.φ id b := hb
        rw [g2] at hb'; exact hb'
      | cells _ _ => cases k2
      | elem _ _ _ => cases k2
      | gone => exact ⟨trivial, .inr fun b hb => hb⟩
  refine ⟨⟨fun r hr' => RV.okR_ids (b2 r hr'), fun id o ho => ⟨(inHp id o ho).1, HO.okR_ids (inHp id o ho).2.1⟩⟩, e'', hr.low, hr.high, ⟨hs.size.trans b1.symm, fun i r hir => ?_, hs.defers, ⟨fun id o ho => (key id o ho).1, fun id o ho id' o' ho' hne b hb hf => ?_⟩, fun id o b ho hid hf => ?_, fun id o b ho hid hf => ?_, fun id o ho hid => ?_⟩⟩
  · rcases landFr_spec b1 hfr i r hir with h | ⟨r', h1, h2⟩
    · exact .inl h
    · rcases hs.fr i r' h1 with h3 | h3
      · left
        rw [← RV.unk_dead, ← h2] at h3
        cases r <;> first | rfl | cases h3
      · right
        rw [h3, ← RV.unk_den, ← h2, RV.ren_den hr (b2 r (List.mem_of_getElem? hir))]
  · rcases (key id o ho).2 with ⟨i, o1, k1, _, k3, k4, _⟩ | h
    · rcases (key id' o' ho').2 with ⟨i', o1', k1', _, k3', _, k5'⟩ | h'
      · have hown := k4 b hb
        have hng : ∀ (id2 : Nat) o2, hlook S.hp id2 = some o2 → renId n0 rn id2 = some (some i) → lentB n0 rn s.hp (id2, o2) = false := fun id2 o2 _ g2 => by
          rw [Bool.eq_false_iff]
          intro hl
          obtain ⟨_, _, i2, _, _, _, q2, q3⟩ := lent_spec hl
          rw [g2] at q2
          cases q2
          rw [k3] at q3
          cases q3
          exact hown
        have hgo : o.isGone = false := by cases o with | gone => exact False.elim hb | _ => rfl
        have hgo' : o'.isGone = false := by cases o' with | gone => exact False.elim hf | _ => rfl
        have hii : i ≠ i' := fun h => by
          have k1'' : renId n0 rn id' = some (some i) := by rw [h]; exact k1'
          exact hne (srcs_inj b4 (filter_nodup b5) (List.mem_filter.2 ⟨hlook_mem ho, by rw [hng id o ho k1, hgo]; rfl⟩) (List.mem_filter.2 ⟨hlook_mem ho', by rw [hng id' o' ho' k1'', hgo']; rfl⟩) k1 k1'')
        exact hs.sat.apart i o1 k3 i' o1' k3' hii b (k4 b hb) (k5' b hf)
      · exact h' b hf
    · exact h b (HO.owns_foot hb)
  · rcases (key id o ho).2 with ⟨i, o1, _, k2, k3, k4, _⟩ | h
    · have hsame : ∀ j ∈ s.W, j < n0 → j ∈ S.W := fun j hj hlt => by
        rcases b6 j hj with h' | h'
        · have := Nat.le_of_ble_eq_true h'; omega
        · obtain ⟨q, hq, hbq⟩ := List.any_eq_true.1 h'; rw [Nat.eq_of_beq_eq_true hbq]; exact hq
      by_cases hni : n0 ≤ i
      · exact (hs.own i o1 b k3 hni (k4 b hf)).imp (fun h => h) fun h => h.same hr.low hsame
      · rcases (k2 hid).resolve_left hni with ⟨_, _, _, _, g, _⟩ | hw
        · rw [g] at hf; exact False.elim hf
        · have hf' := k4 b hf
          obtain ⟨o0, h1, h2⟩ := hs.old i o1 k3 (by omega)
          obtain ⟨h3, h4⟩ := h2 e' i b (HO.owns_foot hf')
          exact .inr ⟨i, hw, by omega, o0, h1, (HO.owns_same (hr.low i (by omega))).2 (h4.1 hf')⟩
    · exact absurd (HO.owns_foot hf) (h b)
  · rcases (key id o ho).2 with ⟨i, o1, _, k2, k3, _, k5⟩ | h
    · have hsame : ∀ j ∈ s.W, j < n0 → j ∈ S.W := fun j hj hlt => by
        rcases b6 j hj with h' | h'
        · have := Nat.le_of_ble_eq_true h'; omega
        · obtain ⟨q, hq, hbq⟩ := List.any_eq_true.1 h'; rw [Nat.eq_of_beq_eq_true hbq]; exact hq
      by_cases hni : n0 ≤ i
      · exact (hs.foot i o1 b k3 hni (k5 b hf)).imp (fun h => h) (Or.imp (fun h => h.same hr.low hsame) fun h => h.same hr.low)
      · have hf' := k5 b hf
        obtain ⟨o0, h1, h2⟩ := hs.old i o1 k3 (by omega)
        obtain ⟨h3, h4⟩ := h2 e' i b hf'
        have rd : ¬ o0.owns e' i b → ReadsH H0 n0 e'' b := fun h => ReadsH.same hr.low ⟨i, o0, by omega, h1, h3, h⟩
        rcases (k2 hid).resolve_left hni with ⟨sh, l, sh', l', _, g⟩ | hw
        · exact .inr (.inr (rd fun h => by have := h4.2 h; rw [g] at this; exact this))
        · by_cases ho : o0.owns e' i b
          · exact .inr (.inl ⟨i, hw, by omega, o0, h1, (HO.owns_same (hr.low i (by omega))).2 ho⟩)
          · exact .inr (.inr (rd ho))
    · exact absurd hf (h b)
  · rcases (inHp id o ho).2.2 with ⟨i, o1, k1, _, k3, k4⟩ | ⟨k1, _⟩
    · rw [renId_low hid] at k1
      cases k1
      obtain ⟨o0, h1, h2⟩ := hs.old id o1 k3 hid
      refine ⟨o0, h1, h2.trans ?_⟩
      rw [show Nat.blt id n0 = true from Nat.ble_eq_true_of_le hid] at k4
      cases o <;> cases o1 <;> first | (exact fun _ _ _ h => ⟨h, Iff.rfl⟩) | (exact fun _ _ _ h => False.elim h) | (cases k4; done)
    · rw [renId_low hid] at k1; cases k1
end Go.Proofs.Ythgneojhhocflaa
