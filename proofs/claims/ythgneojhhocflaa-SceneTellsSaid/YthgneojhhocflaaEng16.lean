/- A symbolic way through the code of a call: answers that are slices of one's own in some ways, nil in others. No condition. -/
import Derived.Test.YthgneojhhocflaaEng15
set_option linter.unusedVariables false
namespace Go.Proofs.Ythgneojhhocflaa
open Go.RowKit

def isIn (ids : List Nat) (id : Nat) : Bool := ids.any (Nat.beq id)
theorem isIn_iff {ids : List Nat} {id : Nat} : isIn ids id = true ↔ id ∈ ids := by
  simp only [isIn, List.any_eq_true]
  exact ⟨fun ⟨x, hx, h⟩ => by rw [Nat.eq_of_beq_eq_true h]; exact hx, fun h => ⟨id, h, Nat.beq_refl id⟩⟩
def CV.nilV (ids : List Nat) : CV → CV → CV
  | .ext id, .val k (.slice none 0 0) => bif isIn ids id then .ext id else .val k (.slice none 0 0)
  | _, c => c
def cvsNil (ids : List Nat) : List CV → List CV → List CV
  | o :: os, c :: cs => CV.nilV ids o c :: cvsNil ids os cs
  | _, cs => cs
def SV.nilV (ids : List Nat) : SV → SV → SV
  | .one o, .one c => .one (CV.nilV ids o c)
  | .agg os, .agg cs => .agg (cvsNil ids os cs)
  | _, s => s
def svsNil (ids : List Nat) : List SV → List SV → List SV
  | o :: os, c :: cs => SV.nilV ids o c :: svsNil ids os cs
  | _, cs => cs
def RV.nilV (ids : List Nat) : RV → RV → RV
  | .sv o, .sv s => .sv (SV.nilV ids o s)
  | .tup os, .tup l => .tup (svsNil ids os l)
  | _, r => r
def nilOne (O : Out) : CV × CV → List Nat
  | (.ext id, .val _ (.slice none 0 0)) => (match hlook O.up id with
    | some (.row _ _ _) => [id]
    | some (.grid _ _) => [id]
    | _ => [])
  | _ => []
def RV.allCells : RV → List CV
  | .sv s => s.cells
  | .tup l => l.flatMap SV.cells
  | .dead => []
def nilIds (O out : Out) : List Nat := (O.v.allCells.zip out.v.allCells).flatMap (nilOne O)
def nilHO : HO → HO
  | .row sh t _ => .row sh t []
  | .grid sh _ => .grid sh []
  | _ => .gone
def nilUp (ids : List Nat) (up : Hp) (p : Nat × HO) : Nat × HO := (p.1, bif isIn ids p.1 then nilHO p.2 else (hlook up p.1).getD .gone)
def nilFine (nx : Nat) (ids : List Nat) (O out : Out) : Bool :=
  ids.all (fun id => Nat.ble nx id && Nat.blt id O.nx) && out.v.ids.all (fun id => !isIn ids id) && out.up.all (fun p => p.2.ids.all fun id => !isIn ids id) && Nat.ble out.nx O.nx
/-- What is nil where O has a slice is a slice of no rows. -/
def Out.nil (nx : Nat) (O out : Out) : Out :=
  bif (nilIds O out).isEmpty then out else bif nilFine nx (nilIds O out) O out then ⟨RV.nilV (nilIds O out) O.v out.v, O.up.map (nilUp (nilIds O out) out.up), O.nx, out.W⟩ else out

def Env.nilAt (e : Env) (ids : List Nat) : Env := ⟨e.ρ, fun id => bif isIn ids id then (none, 0, 0) else e.σ id, fun id => bif isIn ids id then fun _ => False else e.φ id⟩
theorem Env.nilAt_same {e : Env} {ids : List Nat} {id : Nat} (h : isIn ids id = false) : e.same (e.nilAt ids) id := ⟨rfl, by simp [Env.nilAt, h], by simp [Env.nilAt, h]⟩
theorem Env.nilAt_slv {e : Env} {ids : List Nat} {id : Nat} (h : isIn ids id = true) : (e.nilAt ids).slv id = .slice none 0 0 := by simp [Env.nilAt, Env.slv, h]
theorem CV.nilV_den {e : Env} {ids : List Nat} (o : CV) {c : CV} (h : ∀ id ∈ c.ids, isIn ids id = false) : (CV.nilV ids o c).den (e.nilAt ids) = c.den e := by
  have plain : c.den (e.nilAt ids) = c.den e := c.den_same fun id hid => Env.nilAt_same (h id hid)
  unfold CV.nilV
  split
  · rename_i id k
    cases hb : isIn ids id with
    | true => simp only [cond_true]; exact Env.nilAt_slv hb
    | false => rfl
  · exact plain
theorem cvsNil_den {e : Env} {ids : List Nat} : ∀ (os cs : List CV), (∀ id ∈ cs.flatMap CV.ids, isIn ids id = false) → (cvsNil ids os cs).map (CV.den (e.nilAt ids)) = cs.map (CV.den e) := by
  intro os
  induction os with
  | nil => intro cs h; exact cvs_den_same cs fun id hid => Env.nilAt_same (h id hid)
  | cons o os ih =>
    intro cs h
    cases cs with
    | nil => rfl
    | cons c cs =>
      simp only [List.flatMap_cons, List.mem_append] at h
      simp only [cvsNil, List.map_cons]
      rw [CV.nilV_den o fun id hid => h id (.inl hid), ih cs fun id hid => h id (.inr hid)]
theorem SV.nilV_den {e : Env} {ids : List Nat} (o : SV) {s : SV} (h : ∀ id ∈ s.ids, isIn ids id = false) : (SV.nilV ids o s).den (e.nilAt ids) = s.den e := by
  have plain : s.den (e.nilAt ids) = s.den e := s.den_same fun id hid => Env.nilAt_same (h id hid)
  unfold SV.nilV
  split
  · exact CV.nilV_den _ h
  · rename_i os cs
    simp only [SV.den]
    rw [cvsNil_den os cs h]
  · exact plain
theorem svsNil_den {e : Env} {ids : List Nat} : ∀ (os cs : List SV), (∀ id ∈ cs.flatMap SV.ids, isIn ids id = false) → (svsNil ids os cs).map (SV.den (e.nilAt ids)) = cs.map (SV.den e) := by
  intro os
  induction os with
  | nil => intro cs h; exact List.map_congr_left fun s hs => s.den_same fun id hid => Env.nilAt_same (h id (List.mem_flatMap.2 ⟨s, hs, hid⟩))
  | cons o os ih =>
    intro cs h
    cases cs with
    | nil => rfl
    | cons c cs =>
      simp only [List.flatMap_cons, List.mem_append] at h
      simp only [svsNil, List.map_cons]
      rw [SV.nilV_den o fun id hid => h id (.inl hid), ih cs fun id hid => h id (.inr hid)]
theorem RV.nilV_den {e : Env} {ids : List Nat} (o : RV) {r : RV} (h : ∀ id ∈ r.ids, isIn ids id = false) : (RV.nilV ids o r).den (e.nilAt ids) = r.den e := by
  have plain : r.den (e.nilAt ids) = r.den e := r.den_same fun id hid => Env.nilAt_same (h id hid)
  unfold RV.nilV
  split
  · exact SV.nilV_den _ h
  · rename_i os l
    simp only [RV.den]
    rw [svsNil_den os l h]
  · exact plain
theorem hlook_nilUp {ids : List Nat} {up : Hp} : ∀ {l : Hp} {id : Nat} {o : HO}, hlook (l.map (nilUp ids up)) id = some o →
    (isIn ids id = true ∧ ∃ o0, o = nilHO o0) ∨ o = .gone ∨ (isIn ids id = false ∧ hlook up id = some o) := by
  intro l
  induction l with
  | nil => intro id o h; cases h
  | cons p l ih =>
    obtain ⟨i, o1⟩ := p
    intro id o h
    simp only [List.map_cons, nilUp, hlook] at h
    cases hb : Nat.beq i id with
    | true =>
      obtain rfl := Nat.eq_of_beq_eq_true hb
      rw [hb] at h
      simp only [cond_true, Option.some.injEq] at h
      subst h
      cases hi : isIn ids i with
      | true => exact .inl ⟨by simp, o1, by simp⟩
      | false =>
        simp only [cond_false]
        cases hu : hlook up i with
        | none => exact .inr (.inl rfl)
        | some o2 => exact .inr (.inr ⟨by simp, by simp⟩)
    | false => rw [hb] at h; exact ih h
theorem nilHO_holds {e : Env} {ids : List Nat} {w : World} {id : Nat} (h : isIn ids id = true) (o : HO) : (nilHO o).holds (e.nilAt ids) w id ∧ (∀ b, ¬ (nilHO o).owns (e.nilAt ids) id b) ∧ ∀ b, ¬ (nilHO o).foot (e.nilAt ids) id b := by
  have hs := Env.nilAt_slv (e := e) h
  have hφ : ∀ b, ¬ (e.nilAt ids).φ id b := fun b hb => by simp [Env.nilAt, h] at hb
  cases o with
  | row sh t l =>
    refine ⟨⟨⟨0, [], ⟨by simp, .inl ⟨hs, rfl⟩⟩, fun i hi => by simp at hi⟩, fun b hb => absurd hb (hφ b)⟩, fun b hb => ?_, fun b hb => ?_⟩
    · have : ((e.nilAt ids).slv id).ownBlock = some b := hb
      rw [hs] at this; cases this
    · rcases hb with hb | hb
      · rw [hs] at hb; cases hb
      · exact hφ b hb
  | grid sh l => exact ⟨⟨⟨0, none, 0, hs, by simp, by omega, fun _ => rfl, fun i hi => by simp at hi⟩, fun b hb => absurd hb (hφ b)⟩, fun b hb => hb, fun b hb => hφ b hb⟩
  | cells _ _ => exact ⟨trivial, fun b hb => hb, fun b hb => hb⟩
  | elem _ _ _ => exact ⟨trivial, fun b hb => hb, fun b hb => hb⟩
  | gone => exact ⟨trivial, fun b hb => hb, fun b hb => hb⟩
theorem CallOk.nil {P : Program} {f : FuncId} {args : List RV} {hp : Hp} {nx : Nat} {out : Out} (O : Out) (h : CallOk P f args hp nx out) : CallOk P f args hp nx (Out.nil nx O out) := by
  unfold Out.nil
  cases hE : (nilIds O out).isEmpty with
  | true => simpa using h
  | false =>
    generalize nilIds O out = ids at *
    cases hF : nilFine nx ids O out with
    | false => simpa using h
    | true =>
      simp only [cond_false, cond_true]
      simp only [nilFine, Bool.and_eq_true, List.all_eq_true, Bool.not_eq_true'] at hF
      obtain ⟨⟨⟨f1, f2⟩, f3⟩, f4⟩ := hF
      have f4 := Nat.le_of_ble_eq_true f4
      have out_of : ∀ id, id < nx ∨ O.nx ≤ id → isIn ids id = false := by
        intro id hid
        cases hb : isIn ids id with
        | false => rfl
        | true =>
          obtain ⟨k1, k3⟩ := f1 id (isIn_iff.1 hb)
          have k1 := Nat.le_of_ble_eq_true k1
          have k3 : id + 1 ≤ O.nx := Nat.le_of_ble_eq_true k3
          omega
      intro e w hs
      refine (h e w hs).mono fun en w' ⟨e', hen, hp'⟩ => ⟨e'.nilAt ids, ?_, ?_⟩
      · rw [hen]; exact congrArg Ending.returned (RV.nilV_den O.v fun id hid => f2 id hid).symm
      · have same : ∀ id, isIn ids id = false → e'.same (e'.nilAt ids) id := fun id hid => Env.nilAt_same hid
        have keep : ∀ id o, isIn ids id = false → hlook out.up id = some o → o.holds (e'.nilAt ids) w' id ∧ (∀ b, o.owns (e'.nilAt ids) id b ↔ o.owns e' id b) ∧ ∀ b, o.foot (e'.nilAt ids) id b ↔ o.foot e' id b := fun id o hi ho =>
          ⟨HO.holds_next (hp'.sat.holds id o ho) (same id hi) (fun i hid => same i (f3 (id, o) (hlook_mem ho) i hid)) (fun _ _ => rfl) (Nat.le_refl _), fun b => HO.owns_same (same id hi), fun b => HO.foot_same (same id hi)⟩
        have look : ∀ id o, hlook (O.up.map (nilUp ids out.up)) id = some o → (o.holds (e'.nilAt ids) w' id) ∧ ((∀ b, ¬ o.foot (e'.nilAt ids) id b) ∨ (hlook out.up id = some o ∧ (∀ b, o.owns (e'.nilAt ids) id b ↔ o.owns e' id b) ∧ ∀ b, o.foot (e'.nilAt ids) id b ↔ o.foot e' id b)) := by
          intro id o ho
          rcases hlook_nilUp ho with ⟨hi, o0, rfl⟩ | rfl | ⟨hi, hu⟩
          · have k := nilHO_holds (e := e') (w := w') hi o0
            exact ⟨k.1, .inl k.2.2⟩
          · exact ⟨trivial, .inl fun b hb => hb⟩
          · have k := keep id o hi hu
            exact ⟨k.1, .inr ⟨hu, k.2.1, k.2.2⟩⟩
        refine ⟨fun id hid => (hp'.agree id (hid.imp_right fun h => Nat.le_trans f4 h)).trans (same id (out_of id hid)), hp'.os, hp'.tape, hp'.output, hp'.size, hp'.fr, ⟨fun id o ho => (look id o ho).1, fun id o ho id' o' ho' hne b hb hf => ?_⟩, fun id o b ho hb => ?_, fun id o b ho hb => ?_⟩
        · rcases (look id o ho).2 with k | ⟨k1, k2, k3⟩
          · exact k b (HO.owns_foot hb)
          · rcases (look id' o' ho').2 with j | ⟨j1, j2, j3⟩
            · exact j b hf
            · exact hp'.sat.apart id o k1 id' o' j1 hne b ((k2 b).1 hb) ((j3 b).1 hf)
        · rcases (look id o ho).2 with k | ⟨k1, k2, k3⟩
          · exact absurd (HO.owns_foot hb) (k b)
          · exact hp'.own id o b k1 ((k2 b).1 hb)
        · rcases (look id o ho).2 with k | ⟨k1, k2, k3⟩
          · exact absurd hb (k b)
          · exact hp'.foot id o b k1 ((k3 b).1 hb)
def outN {X : Type} (nx : Nat) (O : X → Out) (rd : Out → Option X) (out : Out) : FR X :=
  match rd out with
  | some x => (fun t : Two => ⟨.cons (.code .skip) (outF.rowsL t.1), .cons (.code .skip) (outF.rowsL t.2), some x⟩) (Out.full (O x) (Out.nil nx (O x) out))
  | none => (algF X).fail
theorem outN_ok {X : Type} {P : Program} {f : FuncId} {args : List RV} {hp : Hp} {nx : Nat} {O : X → Out} {rd : Out → Option X} {out : Out} {x : X} (h : CallOk P f args hp nx out) (hg : FR.is x (outN nx O rd out)) : CallOk P f args hp nx (O x) := by
  unfold outN at hg
  split at hg
  · rename_i x' hx
    obtain ⟨h1, h2⟩ := hg
    simp only [Rows.cons.injEq, true_and] at h1
    cases h2
    exact (h.nil (O x)).full (rowsL_inj h1)
  · exact absurd hg (sound_F x).fail
theorem eng_treeN {X : Type} {P : Program} {C : Cfg P} (hf : FactsOk C.facts) {n : Nat} {f : FuncId} {args : List RV} {hp : Hp} {nx : Nat} (O : X → Out) (rd : Out → Option X) {o : Option X} (hnm : namesB ⟨args, hp, nx, []⟩ = true)
    (h : (fun r : FR X => (r.l, r.o)) (evBody (algF X) C (evCall (algF X) C n) (evCallJ C n) f args hp nx (outN nx O rd)) = (fun r : FR X => (r.r, o)) (evBody (algF X) C (evCall (algF X) C n) (evCallJ C n) f args hp nx (outN nx O rd))) {x : X} (ho : o = some x) : CallOk P f args hp nx (O x) := by
  simp only [Prod.mk.injEq] at h
  subst ho
  obtain ⟨out, h1, h2⟩ := evBody_ok hf (evCall_ok hf n) (gsim_J n) (namesB_spec hnm) (gsim_body (sound_F x) (gsim_call (sound_F x) n) (fun out hg => hg) h)
  exact outN_ok h1 h2
end Go.Proofs.Ythgneojhhocflaa
