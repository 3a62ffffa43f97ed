/- Eng15, Eng16, Eng17, Eng18, Eng19, laid together. No condition. -/
import Derived.Test.YtonlllijdbjkaaaEngE
/- A symbolic way through the code of a call: contracts whose answers are slices, for callers with slices of their own. No condition. -/
set_option linter.unusedVariables false
namespace Go.Proofs.Ytonlllijdbjkaaa
open Go.RowKit

theorem SV.den_rs {e e' : Env} (s : SV) (h1 : e'.ρ = e.ρ) (h2 : e'.σ = e.σ) : s.den e' = s.den e := by
  cases s with
  | one c => exact c.den_rs h1 h2
  | agg cs => simp only [SV.den]; rw [List.map_congr_left fun c _ => c.den_rs h1 h2]
theorem RV.den_rs {e e' : Env} (r : RV) (h1 : e'.ρ = e.ρ) (h2 : e'.σ = e.σ) : r.den e' = r.den e := by
  cases r with
  | sv s => exact s.den_rs h1 h2
  | tup l => simp only [RV.den]; rw [List.map_congr_left fun s _ => s.den_rs h1 h2]
  | dead => rfl
theorem frz_foot {e : Env} {hp : Hp} : ∀ id o, hlook hp id = some o → ∀ b, (frz1 o).foot (e.frz (hlook hp)) id b → o.foot e id b := by
  intro id o ho b hb
  cases o with
  | cells cs t => exact hb
  | grid sh l =>
    have hb' : e.φ id b ∨ (isRow (hlook hp id) = true ∧ (e.slv id).ownBlock = some b) := hb
    rw [ho] at hb'
    rcases hb' with hb' | hb'
    · exact hb'
    · cases hb'.1
  | row sh t l =>
    have hb' : e.φ id b ∨ (isRow (hlook hp id) = true ∧ (e.slv id).ownBlock = some b) := hb
    rcases hb' with hb' | hb'
    · exact .inr hb'
    · exact .inl hb'.2
  | elem _ _ _ => exact hb
  | gone => exact hb
  | tie _ _ _ => exact hb
  | part _ _ _ _ => exact hb
  | lent _ _ => exact hb
theorem frz_sat {e : Env} {hp : Hp} {w : World} (hs : Sat e (hlook hp) w) : Sat (e.frz (hlook hp)) (hlook (frz hp)) w := by
  have hden : ∀ c : CV, c.den (e.frz (hlook hp)) = c.den e := fun c => c.den_rs rfl rfl
  have hfoot := frz_foot (e := e) (hp := hp)
  refine ⟨fun id o ho => ?_, fun id o ho id' o' ho' hne b hb hf => ?_⟩
  · rw [hlook_frz] at ho
    obtain ⟨o1, ho1, rfl⟩ := Option.map_eq_some_iff.1 ho
    have hh := hs.holds id o1 ho1
    cases o1 with
    | cells cs t =>
      simp only [frz1, HO.holds] at hh ⊢
      rw [List.map_congr_left fun c _ => hden c]
      exact hh
    | grid sh l =>
      have hφ : (e.frz (hlook hp)).φ id = e.φ id := by
        funext b
        simp [Env.frz, ho1, isRow]
      simp only [frz1, HO.holds, hφ] at hh ⊢
      exact hh
    | row sh t l =>
      obtain ⟨d, hr⟩ := HO.rowsAt (p := (sh, l)) hh rfl
      have hsub : ∀ b, (HO.row sh t l).foot e id b → (e.frz (hlook hp)).φ id b := by
        intro b hb
        rcases hb with hb | hb
        · exact .inr ⟨by rw [ho1]; rfl, hb⟩
        · exact .inl hb
      refine ⟨⟨d, hr.mono (fun b hb => ⟨hsub b hb, rfl⟩) (fun s c u hc => hc.mono fun b hb => ⟨hsub b (.inr hb), rfl⟩)⟩, fun b hb => ?_⟩
      exact HO.foot_lt hh (hfoot id _ ho1 b hb)
    | elem id' i w' => exact hh
    | gone => trivial
    | tie _ _ _ => exact hh
    | part _ _ _ _ => exact hh
    | lent cs t =>
      simp only [frz1, HO.holds] at hh ⊢
      rw [List.map_congr_left fun c _ => hden c]
      exact hh
  · rw [hlook_frz] at ho ho'
    obtain ⟨o1, ho1, rfl⟩ := Option.map_eq_some_iff.1 ho
    obtain ⟨o2, ho2, rfl⟩ := Option.map_eq_some_iff.1 ho'
    have hown : o1.owns e id b := by
      cases o1 with
      | cells cs t => exact hb
      | _ => exact False.elim hb
    exact hs.apart id o1 ho1 id' o2 ho2 hne b hown (hfoot id' o2 ho2 b hf)
theorem frz_owns {e : Env} {o : HO} {h : Nat → Option HO} {id b : Nat} (hb : (frz1 o).owns (e.frz h) id b) : o.owns e id b := by
  cases o with
  | cells cs t => exact hb
  | _ => exact False.elim hb
/-- What is answered is read alone from here on. -/
theorem CallOk.freezeOut {P : Program} {f : FuncId} {args : List RV} {hp : Hp} {nx : Nat} {out : Out} (h : CallOk P f args hp nx out) (hW : out.W = []) (hup : out.up.all (fun p => Nat.ble nx p.1 && Nat.blt p.1 out.nx) = true) :
    CallOk P f args hp nx ⟨out.v, frz out.up, out.nx, []⟩ := by
  intro e w hs
  refine (h e w hs).mono fun en w' ⟨e', hen, hp'⟩ => ⟨e'.frz (hlook out.up), ?_, ?_⟩
  · rw [hen]; exact congrArg Ending.returned (RV.den_rs out.v (e := e') (e' := e'.frz (hlook out.up)) rfl rfl).symm
  · have hno : ∀ id, id < nx ∨ out.nx ≤ id → hlook out.up id = none := by
      intro id hid
      cases ho : hlook out.up id with
      | none => rfl
      | some o =>
        have := List.all_eq_true.1 hup _ (hlook_mem ho)
        simp only [Bool.and_eq_true] at this
        have h1 := Nat.le_of_ble_eq_true this.1
        have h2 : id + 1 ≤ out.nx := Nat.le_of_ble_eq_true this.2
        omega
    refine ⟨fun id hid => ?_, hp'.os, hp'.tape, hp'.output, hp'.size, fun k hk _ => hp'.fr k hk (fun id hid => by rw [hW] at hid; cases hid), frz_sat hp'.sat, fun id o b ho hb => ?_, fun id o b ho hb => ?_⟩
    · have hsame := hp'.agree id hid
      refine ⟨hsame.1, hsame.2.1, ?_⟩
      rw [← hsame.2.2]
      funext b
      simp [Env.frz, hno id hid, isRow]
    · simp only [hlook_frz] at ho
      obtain ⟨o1, ho1, rfl⟩ := Option.map_eq_some_iff.1 ho
      rcases hp'.own id o1 b ho1 (frz_owns hb) with h | ⟨id0, h0, _⟩
      · exact .inl h
      · rw [hW] at h0; cases h0
    · simp only [hlook_frz] at ho
      obtain ⟨o1, ho1, rfl⟩ := Option.map_eq_some_iff.1 ho
      rcases hp'.foot id o1 b ho1 (frz_foot _ _ ho1 b hb) with h | ⟨id0, h0, _⟩ | h
      · exact .inl h
      · rw [hW] at h0; cases h0
      · exact .inr (.inr h)
def Sh.flat : Sh → Bool
  | .sl _ => false
  | .fn _ => false
  | _ => true
theorem CtHolds.flat {w : World} {φ φ' : Nat → Prop} {d : Nat} {s : Sh} {c : Ct} {v : Value} (hs : s.flat = true) (h : CtHolds w φ d s c v) : CtHolds w φ' d s c v := by
  cases s with
  | sl e => cases hs
  | fn al => cases hs
  | _ => cases d <;> exact h
/-- A slice of one's own of flat rows, or cells. -/
def HO.flatR : HO → Bool
  | .row sh _ _ => sh.all Sh.flat
  | .grid _ _ => false
  | .lent _ _ => false
  | _ => true
def Env.clr (e e' : Env) (n0 n1 : Nat) : Env := ⟨e'.ρ, e'.σ, fun id => if n0 ≤ id ∧ id < n1 then fun _ => False else e.φ id⟩
theorem CallOk.freezeR {P : Program} {f : FuncId} {args : List RV} {hp : Hp} {nx : Nat} {out : Out} (h : CallOk P f args (frz hp) nx out) (hW : out.W = []) (hup : out.up.all (fun p => Nat.ble nx p.1 && Nat.blt p.1 out.nx && p.2.flatR) = true) : CallOk P f args hp nx out := by
  intro e w hs
  have hk := h (e.frz (hlook hp)) w (frz_sat hs)
  rw [show args.map (RV.den (e.frz (hlook hp))) = args.map (RV.den e) from List.map_congr_left fun r _ => r.den_rs rfl rfl] at hk
  refine hk.mono fun en w' ⟨e', hen, hp'⟩ => ⟨e.clr e' nx out.nx, ?_, ?_⟩
  · rw [hen]; exact congrArg Ending.returned (RV.den_rs out.v (e := e') (e' := e.clr e' nx out.nx) rfl rfl).symm
  · have hin : ∀ id o, hlook out.up id = some o → (nx ≤ id ∧ id < out.nx) ∧ o.flatR = true := by
      intro id o ho
      have := List.all_eq_true.1 hup _ (hlook_mem ho)
      simp only [Bool.and_eq_true] at this
      exact ⟨⟨Nat.le_of_ble_eq_true this.1.1, Nat.le_of_ble_eq_true this.1.2⟩, this.2⟩
    have hown : ∀ id o b, hlook out.up id = some o → o.owns (e.clr e' nx out.nx) id b → o.owns e' id b := by
      intro id o b ho hb
      cases o with
      | cells _ _ => exact hb
      | row _ _ _ => exact hb
      | _ => exact False.elim hb
    have hfoot : ∀ id o b, hlook out.up id = some o → o.foot (e.clr e' nx out.nx) id b → o.owns e' id b := by
      intro id o b ho hb
      obtain ⟨hi, hfl⟩ := hin id o ho
      cases o with
      | cells _ _ => exact hb
      | row sh t l =>
        rcases hb with hb | hb
        · exact hb
        · simp [Env.clr, hi] at hb
      | grid _ _ => cases hfl
      | elem _ _ _ => exact False.elim hb
      | gone => exact False.elim hb
      | tie _ _ _ => exact False.elim hb
      | part _ _ _ _ => exact False.elim hb
      | lent _ _ => cases hfl
    have fresh : ∀ id o b, hlook out.up id = some o → o.owns e' id b → w.heap.size ≤ b := by
      intro id o b ho hb
      rcases hp'.own id o b ho hb with h | ⟨id0, h0, _⟩
      · exact h
      · rw [hW] at h0; cases h0
    refine ⟨fun id hid => ?_, hp'.os, hp'.tape, hp'.output, hp'.size, fun k hk _ => hp'.fr k hk (fun id hid => by rw [hW] at hid; cases hid), ⟨fun id o ho => ?_, fun id o ho id' o' ho' hne b hb hf => ?_⟩, fun id o b ho hb => .inl (fresh id o b ho (hown id o b ho hb)), fun id o b ho hb => .inl (fresh id o b ho (hfoot id o b ho hb))⟩
    · have hsame := hp'.agree id hid
      refine ⟨hsame.1, hsame.2.1, ?_⟩
      simp only [Env.clr]
      rw [if_neg (by omega)]
    · obtain ⟨hi, hfl⟩ := hin id o ho
      have hh := hp'.sat.holds id o ho
      cases o with
      | cells cs t =>
        simp only [HO.holds] at hh ⊢
        rw [List.map_congr_left fun c _ => CV.den_rs c (e := e') (e' := e.clr e' nx out.nx) rfl rfl]
        exact hh
      | row sh t l =>
        obtain ⟨⟨d, xs, ho1, hc⟩, hb⟩ := hh
        refine ⟨⟨d, xs, ho1, fun i hi' j s hs' => ?_⟩, fun b hb' => ?_⟩
        · obtain ⟨u, hu, hct⟩ := hc i hi' j s hs'
          exact ⟨u, hu, hct.flat (List.all_eq_true.1 hfl s (List.mem_of_getElem? hs'))⟩
        · simp [Env.clr, hi] at hb'
      | grid _ _ => cases hfl
      | elem id' i w' => exact hh
      | gone => trivial
      | tie _ _ _ => exact hh
      | part _ _ _ _ => exact hh
      | lent _ _ => cases hfl
    · exact hp'.sat.apart id o ho id' o' ho' hne b (hown id o b ho hb) (HO.owns_foot (hfoot id' o' b ho' hf))
def Con.freezeR {P : Program} (c : Con P) : Con P where
  f := c.f
  g := fun args hp nx => match c.g args (frz hp) nx with
    | some (p, out) => bif out.W.isEmpty && out.up.all (fun p => Nat.ble nx p.1 && Nat.blt p.1 out.nx && p.2.flatR) then some (p, out) else none
    | none => none
  ok := by
    intro args hp nx p out hn h hm
    split at h
    · rename_i p' out' ho
      cases hb : (out'.W.isEmpty && out'.up.all (fun p => Nat.ble nx p.1 && Nat.blt p.1 out'.nx && p.2.flatR)) with
      | false => rw [hb] at h; cases h
      | true =>
        rw [hb] at h
        simp only [cond_true, Option.some.injEq, Prod.mk.injEq] at h
        obtain ⟨rfl, rfl⟩ := h
        rw [Bool.and_eq_true, List.isEmpty_iff] at hb
        refine (c.ok args (frz hp) nx _ _ ⟨hn.fr, fun id o ho => ?_⟩ ho hm).freezeR hb.1 hb.2
        rw [hlook_frz] at ho
        obtain ⟨o1, ho1, rfl⟩ := Option.map_eq_some_iff.1 ho
        refine ⟨(hn.hp id o1 ho1).1, fun i hi => (hn.hp id o1 ho1).2 i ?_⟩
        cases o1 <;> first | exact hi | exact absurd hi (by simp [frz1, HO.ids])
    · cases h
def Con.freezeO {P : Program} (c : Con P) : Con P where
  f := c.f
  g := fun args hp nx => match c.g args hp nx with
    | some (p, out) => bif out.W.isEmpty && out.up.all (fun p => Nat.ble nx p.1 && Nat.blt p.1 out.nx) then some (p, ⟨out.v, frz out.up, out.nx, []⟩) else none
    | none => none
  ok := by
    intro args hp nx p out hn h hm
    split at h
    · rename_i p' out' ho
      cases hb : (out'.W.isEmpty && out'.up.all (fun p => Nat.ble nx p.1 && Nat.blt p.1 out'.nx)) with
      | false => rw [hb] at h; cases h
      | true =>
        rw [hb] at h
        simp only [cond_true, Option.some.injEq, Prod.mk.injEq] at h
        obtain ⟨rfl, rfl⟩ := h
        rw [Bool.and_eq_true, List.isEmpty_iff] at hb
        exact (c.ok args hp nx _ _ hn ho hm).freezeOut hb.1 hb.2
    · cases h
end Go.Proofs.Ytonlllijdbjkaaa

/- A symbolic way through the code of a call: answers that are slices of one's own in some ways, nil in others. No condition. -/
set_option linter.unusedVariables false
namespace Go.Proofs.Ytonlllijdbjkaaa
open Go.RowKit

def isIn (ids : List Nat) (id : Nat) : Bool := ids.any (Nat.beq id)
theorem isIn_iff {ids : List Nat} {id : Nat} : isIn ids id = true ↔ id ∈ ids := by
  simp only [isIn, List.any_eq_true]
  exact ⟨fun ⟨x, hx, h⟩ => by rw [Nat.eq_of_beq_eq_true h]; exact hx, fun h => ⟨id, h, Nat.beq_refl id⟩⟩
def CV.nilV (ids : List Nat) : CV → CV → CV
  | .ext id, .val k (.slice none 0 0) => bif isIn ids id then .ext id else .val k (.slice none 0 0)
  | _, c => c
def cvsNil (ids : List Nat) : List CV → List CV → List CV
  | o :: os, c :: cs => CV.nilV ids o c :: cvsNil ids os cs
  | _, cs => cs
def SV.nilV (ids : List Nat) : SV → SV → SV
  | .one o, .one c => .one (CV.nilV ids o c)
  | .agg os, .agg cs => .agg (cvsNil ids os cs)
  | _, s => s
def svsNil (ids : List Nat) : List SV → List SV → List SV
  | o :: os, c :: cs => SV.nilV ids o c :: svsNil ids os cs
  | _, cs => cs
def RV.nilV (ids : List Nat) : RV → RV → RV
  | .sv o, .sv s => .sv (SV.nilV ids o s)
  | .tup os, .tup l => .tup (svsNil ids os l)
  | _, r => r
def nilOne (O : Out) : CV × CV → List Nat
  | (.ext id, .val _ (.slice none 0 0)) => (match hlook O.up id with
    | some (.row _ _ _) => [id]
    | some (.grid _ _) => [id]
    | _ => [])
  | _ => []
def RV.allCells : RV → List CV
  | .sv s => s.cells
  | .tup l => l.flatMap SV.cells
  | .dead => []
def nilIds (O out : Out) : List Nat := (O.v.allCells.zip out.v.allCells).flatMap (nilOne O)
def nilHO : HO → HO
  | .row sh t _ => .row sh t []
  | .grid sh _ => .grid sh []
  | _ => .gone
def nilUp (ids : List Nat) (up : Hp) (p : Nat × HO) : Nat × HO := (p.1, bif isIn ids p.1 then nilHO p.2 else (hlook up p.1).getD .gone)
def nilFine (nx : Nat) (ids : List Nat) (O out : Out) : Bool :=
  ids.all (fun id => Nat.ble nx id && Nat.blt id O.nx) && out.v.ids.all (fun id => !isIn ids id) && out.up.all (fun p => p.2.ids.all fun id => !isIn ids id) && Nat.ble out.nx O.nx
/-- What is nil where O has a slice is a slice of no rows. -/
def Out.nil (nx : Nat) (O out : Out) : Out :=
  bif (nilIds O out).isEmpty then out else bif nilFine nx (nilIds O out) O out then ⟨RV.nilV (nilIds O out) O.v out.v, O.up.map (nilUp (nilIds O out) out.up), O.nx, out.W⟩ else out

def Env.nilAt (e : Env) (ids : List Nat) : Env := ⟨e.ρ, fun id => bif isIn ids id then (none, 0, 0) else e.σ id, fun id => bif isIn ids id then fun _ => False else e.φ id⟩
theorem Env.nilAt_same {e : Env} {ids : List Nat} {id : Nat} (h : isIn ids id = false) : e.same (e.nilAt ids) id := ⟨rfl, by simp [Env.nilAt, h], by simp [Env.nilAt, h]⟩
theorem Env.nilAt_slv {e : Env} {ids : List Nat} {id : Nat} (h : isIn ids id = true) : (e.nilAt ids).slv id = .slice none 0 0 := by simp [Env.nilAt, Env.slv, h]
theorem CV.nilV_den {e : Env} {ids : List Nat} (o : CV) {c : CV} (h : ∀ id ∈ c.ids, isIn ids id = false) : (CV.nilV ids o c).den (e.nilAt ids) = c.den e := by
  have plain : c.den (e.nilAt ids) = c.den e := c.den_same fun id hid => Env.nilAt_same (h id hid)
  unfold CV.nilV
  split
  · rename_i id k
    cases hb : isIn ids id with
    | true => simp only [cond_true]; exact Env.nilAt_slv hb
    | false => rfl
  · exact plain
theorem cvsNil_den {e : Env} {ids : List Nat} : ∀ (os cs : List CV), (∀ id ∈ cs.flatMap CV.ids, isIn ids id = false) → (cvsNil ids os cs).map (CV.den (e.nilAt ids)) = cs.map (CV.den e) := by
  intro os
  induction os with
  | nil => intro cs h; exact cvs_den_same cs fun id hid => Env.nilAt_same (h id hid)
  | cons o os ih =>
    intro cs h
    cases cs with
    | nil => rfl
    | cons c cs =>
      simp only [List.flatMap_cons, List.mem_append] at h
      simp only [cvsNil, List.map_cons]
      rw [CV.nilV_den o fun id hid => h id (.inl hid), ih cs fun id hid => h id (.inr hid)]
theorem SV.nilV_den {e : Env} {ids : List Nat} (o : SV) {s : SV} (h : ∀ id ∈ s.ids, isIn ids id = false) : (SV.nilV ids o s).den (e.nilAt ids) = s.den e := by
  have plain : s.den (e.nilAt ids) = s.den e := s.den_same fun id hid => Env.nilAt_same (h id hid)
  unfold SV.nilV
  split
  · exact CV.nilV_den _ h
  · rename_i os cs
    simp only [SV.den]
    rw [cvsNil_den os cs h]
  · exact plain
theorem svsNil_den {e : Env} {ids : List Nat} : ∀ (os cs : List SV), (∀ id ∈ cs.flatMap SV.ids, isIn ids id = false) → (svsNil ids os cs).map (SV.den (e.nilAt ids)) = cs.map (SV.den e) := by
  intro os
  induction os with
  | nil => intro cs h; exact List.map_congr_left fun s hs => s.den_same fun id hid => Env.nilAt_same (h id (List.mem_flatMap.2 ⟨s, hs, hid⟩))
  | cons o os ih =>
    intro cs h
    cases cs with
    | nil => rfl
    | cons c cs =>
      simp only [List.flatMap_cons, List.mem_append] at h
      simp only [svsNil, List.map_cons]
      rw [SV.nilV_den o fun id hid => h id (.inl hid), ih cs fun id hid => h id (.inr hid)]
theorem RV.nilV_den {e : Env} {ids : List Nat} (o : RV) {r : RV} (h : ∀ id ∈ r.ids, isIn ids id = false) : (RV.nilV ids o r).den (e.nilAt ids) = r.den e := by
  have plain : r.den (e.nilAt ids) = r.den e := r.den_same fun id hid => Env.nilAt_same (h id hid)
  unfold RV.nilV
  split
  · exact SV.nilV_den _ h
  · rename_i os l
    simp only [RV.den]
    rw [svsNil_den os l h]
  · exact plain
theorem hlook_nilUp {ids : List Nat} {up : Hp} : ∀ {l : Hp} {id : Nat} {o : HO}, hlook (l.map (nilUp ids up)) id = some o →
    (isIn ids id = true ∧ ∃ o0, o = nilHO o0) ∨ o = .gone ∨ (isIn ids id = false ∧ hlook up id = some o) := by
  intro l
  induction l with
  | nil => intro id o h; cases h
  | cons p l ih =>
    obtain ⟨i, o1⟩ := p
    intro id o h
    simp only [List.map_cons, nilUp, hlook] at h
    cases hb : Nat.beq i id with
    | true =>
      obtain rfl := Nat.eq_of_beq_eq_true hb
      rw [hb] at h
      simp only [cond_true, Option.some.injEq] at h
      subst h
      cases hi : isIn ids i with
      | true => exact .inl ⟨by simp, o1, by simp⟩
      | false =>
        simp only [cond_false]
        cases hu : hlook up i with
        | none => exact .inr (.inl rfl)
        | some o2 => exact .inr (.inr ⟨by simp, by simp⟩)
    | false => rw [hb] at h; exact ih h
theorem nilHO_holds {e : Env} {ids : List Nat} {w : World} {id : Nat} (h : isIn ids id = true) (o : HO) : (nilHO o).holds (e.nilAt ids) w id ∧ (∀ b, ¬ (nilHO o).owns (e.nilAt ids) id b) ∧ ∀ b, ¬ (nilHO o).foot (e.nilAt ids) id b := by
  have hs := Env.nilAt_slv (e := e) h
  have hφ : ∀ b, ¬ (e.nilAt ids).φ id b := fun b hb => by simp [Env.nilAt, h] at hb
  cases o with
  | row sh t l =>
    refine ⟨⟨⟨0, [], ⟨by simp, .inl ⟨hs, rfl⟩⟩, fun i hi => by simp at hi⟩, fun b hb => absurd hb (hφ b)⟩, fun b hb => ?_, fun b hb => ?_⟩
    · have : ((e.nilAt ids).slv id).ownBlock = some b := hb
      rw [hs] at this; cases this
    · rcases hb with hb | hb
      · rw [hs] at hb; cases hb
      · exact hφ b hb
  | grid sh l => exact ⟨⟨⟨0, none, 0, hs, by simp, by omega, fun _ => rfl, fun i hi => by simp at hi⟩, fun b hb => absurd hb (hφ b)⟩, fun b hb => hb, fun b hb => hφ b hb⟩
  | cells _ _ => exact ⟨trivial, fun b hb => hb, fun b hb => hb⟩
  | elem _ _ _ => exact ⟨trivial, fun b hb => hb, fun b hb => hb⟩
  | gone => exact ⟨trivial, fun b hb => hb, fun b hb => hb⟩
  | tie _ _ _ => exact ⟨trivial, fun b hb => hb, fun b hb => hb⟩
  | part _ _ _ _ => exact ⟨trivial, fun b hb => hb, fun b hb => hb⟩
  | lent _ _ => exact ⟨trivial, fun b hb => hb, fun b hb => hb⟩
theorem CallOk.nil {P : Program} {f : FuncId} {args : List RV} {hp : Hp} {nx : Nat} {out : Out} (O : Out) (h : CallOk P f args hp nx out) : CallOk P f args hp nx (Out.nil nx O out) := by
  unfold Out.nil
  cases hE : (nilIds O out).isEmpty with
  | true => simpa using h
  | false =>
    generalize nilIds O out = ids at *
    cases hF : nilFine nx ids O out with
    | false => simpa using h
    | true =>
      simp only [cond_false, cond_true]
      simp only [nilFine, Bool.and_eq_true, List.all_eq_true, Bool.not_eq_true'] at hF
      obtain ⟨⟨⟨f1, f2⟩, f3⟩, f4⟩ := hF
      have f4 := Nat.le_of_ble_eq_true f4
      have out_of : ∀ id, id < nx ∨ O.nx ≤ id → isIn ids id = false := by
        intro id hid
        cases hb : isIn ids id with
        | false => rfl
        | true =>
          obtain ⟨k1, k3⟩ := f1 id (isIn_iff.1 hb)
          have k1 := Nat.le_of_ble_eq_true k1
          have k3 : id + 1 ≤ O.nx := Nat.le_of_ble_eq_true k3
          omega
      intro e w hs
      refine (h e w hs).mono fun en w' ⟨e', hen, hp'⟩ => ⟨e'.nilAt ids, ?_, ?_⟩
      · rw [hen]; exact congrArg Ending.returned (RV.nilV_den O.v fun id hid => f2 id hid).symm
      · have same : ∀ id, isIn ids id = false → e'.same (e'.nilAt ids) id := fun id hid => Env.nilAt_same hid
        have keep : ∀ id o, isIn ids id = false → hlook out.up id = some o → o.holds (e'.nilAt ids) w' id ∧ (∀ b, o.owns (e'.nilAt ids) id b ↔ o.owns e' id b) ∧ ∀ b, o.foot (e'.nilAt ids) id b ↔ o.foot e' id b := fun id o hi ho =>
          ⟨HO.holds_next (hp'.sat.holds id o ho) (same id hi) (fun i hid => same i (f3 (id, o) (hlook_mem ho) i hid)) (fun _ _ => rfl) (Nat.le_refl _), fun b => HO.owns_same (same id hi), fun b => HO.foot_same (same id hi)⟩
        have look : ∀ id o, hlook (O.up.map (nilUp ids out.up)) id = some o → (o.holds (e'.nilAt ids) w' id) ∧ ((∀ b, ¬ o.foot (e'.nilAt ids) id b) ∨ (hlook out.up id = some o ∧ (∀ b, o.owns (e'.nilAt ids) id b ↔ o.owns e' id b) ∧ ∀ b, o.foot (e'.nilAt ids) id b ↔ o.foot e' id b)) := by
          intro id o ho
          rcases hlook_nilUp ho with ⟨hi, o0, rfl⟩ | rfl | ⟨hi, hu⟩
          · have k := nilHO_holds (e := e') (w := w') hi o0
            exact ⟨k.1, .inl k.2.2⟩
          · exact ⟨trivial, .inl fun b hb => hb⟩
          · have k := keep id o hi hu
            exact ⟨k.1, .inr ⟨hu, k.2.1, k.2.2⟩⟩
        refine ⟨fun id hid => (hp'.agree id (hid.imp_right fun h => Nat.le_trans f4 h)).trans (same id (out_of id hid)), hp'.os, hp'.tape, hp'.output, hp'.size, hp'.fr, ⟨fun id o ho => (look id o ho).1, fun id o ho id' o' ho' hne b hb hf => ?_⟩, fun id o b ho hb => ?_, fun id o b ho hb => ?_⟩
        · rcases (look id o ho).2 with k | ⟨k1, k2, k3⟩
          · exact k b (HO.owns_foot hb)
          · rcases (look id' o' ho').2 with j | ⟨j1, j2, j3⟩
            · exact j b hf
            · exact hp'.sat.apart id o k1 id' o' j1 hne b ((k2 b).1 hb) ((j3 b).1 hf)
        · rcases (look id o ho).2 with k | ⟨k1, k2, k3⟩
          · exact absurd (HO.owns_foot hb) (k b)
          · exact hp'.own id o b k1 ((k2 b).1 hb)
        · rcases (look id o ho).2 with k | ⟨k1, k2, k3⟩
          · exact absurd hb (k b)
          · exact hp'.foot id o b k1 ((k3 b).1 hb)
def outN {X : Type} (nx : Nat) (O : X → Out) (rd : Out → Option X) (out : Out) : FR X :=
  match rd out with
  | some x => (fun t : Two => ⟨.cons (.code .skip) (outF.rowsL t.1), .cons (.code .skip) (outF.rowsL t.2), some x⟩) (Out.full (O x) (Out.nil nx (O x) out))
  | none => (algF X).fail
theorem outN_ok {X : Type} {P : Program} {f : FuncId} {args : List RV} {hp : Hp} {nx : Nat} {O : X → Out} {rd : Out → Option X} {out : Out} {x : X} (h : CallOk P f args hp nx out) (hg : FR.is x (outN nx O rd out)) : CallOk P f args hp nx (O x) := by
  unfold outN at hg
  split at hg
  · rename_i x' hx
    obtain ⟨h1, h2⟩ := hg
    simp only [Rows.cons.injEq, true_and] at h1
    cases h2
    exact (h.nil (O x)).full (rowsL_inj h1)
  · exact absurd hg (sound_F x).fail
theorem eng_treeN {X : Type} {P : Program} {C : Cfg P} (hf : FactsOk C.facts) {n : Nat} {f : FuncId} {args : List RV} {hp : Hp} {nx : Nat} (O : X → Out) (rd : Out → Option X) {o : Option X} (hnm : namesB ⟨args, hp, nx, []⟩ = true)
    (h : (fun r : FR X => (r.l, r.o)) (evBody (algF X) C (evCall (algF X) C n) (evCallJ C n) f args hp nx (outN nx O rd)) = (fun r : FR X => (r.r, o)) (evBody (algF X) C (evCall (algF X) C n) (evCallJ C n) f args hp nx (outN nx O rd))) {x : X} (ho : o = some x) : CallOk P f args hp nx (O x) := by
  simp only [Prod.mk.injEq] at h
  subst ho
  obtain ⟨out, h1, h2⟩ := evBody_ok hf (evCall_ok hf n) (gsim_J n) (namesB_spec hnm) (gsim_body (sound_F x) (gsim_call (sound_F x) n) (fun out hg => hg) h)
  exact outN_ok h1 h2
end Go.Proofs.Ytonlllijdbjkaaa

/- A symbolic way through the code of a call: closed calls, evaluated. No condition. -/
set_option linter.unusedVariables false
namespace Go.Proofs.Ytonlllijdbjkaaa
open Go.RowKit

def algQ : Alg Bool where
  fail := false
  ob _ b r := b && r
  eqI _ _ _ := false
  br _ b x y := bif b then x else y
theorem sound_Q : Sound algQ (· = true) where
  fail := by simp [algQ]
  ob := fun h => by simpa [algQ] using h
  eqI := fun h => by simp [algQ] at h
  br := fun {n b r r'} h => by
    cases b with
    | true => exact ⟨fun _ => h, fun hb => by cases hb⟩
    | false => exact ⟨fun hb => (by cases hb), fun _ => h⟩
/-- The call answers true. -/
def outQ (out : Out) : Bool := match out.value with | some (.bool b) => b | _ => false
theorem outQ_spec {out : Out} (h : outQ out = true) : out.value = some (.bool true) := by
  unfold outQ at h
  split at h
  · rename_i b hb; rw [hb, h]
  · cases h
/-- A call without arguments that answers true. -/
theorem eng_closed {P : Program} {C : Cfg P} (hf : FactsOk C.facts) {n : Nat} {f : FuncId} (h : evCall algQ C n f [] [] 0 outQ = true) (w : World) : Calls P f #[] w fun en w' => en = .returned (.bool true) ∧ Below w.heap.size w w' :=
  eng_value hf (args := []) rfl (gsim_call sound_Q n _ _ _ _ _ _ (fun out ho => outQ_spec ho) h) w
end Go.Proofs.Ytonlllijdbjkaaa

/- A call by the place where its body ends: ways that end under unlike names are laid into one. No condition. -/
set_option linter.unusedVariables false
namespace Go.Proofs.Ytonlllijdbjkaaa
open Go.RowKit

/-- What a place answers. -/
def resO (P : Program) (f : FuncId) (s : St) (nx : Nat) : Option Out :=
  match P.funcs[f]? with
  | some fn => (match resAll P s.fr s.hp fn.results.toList, resAsk P s.fr s.hp fn.results.toList with
    | some l, none => (fun (rv : RV) (W : List Nat) => some ⟨rv, restrict s.hp ((reach s.hp 400 (rv.ids ++ W) []).filter fun i => Nat.ble nx i || W.any (Nat.beq i)), s.nx, W⟩) (oneOrTup l) (s.W.filter fun i => Nat.blt i nx)
    | _, _ => none)
  | none => none
def bodyK {R : Type} (n0 : Nat) (st : St) (T : R → St) (rd : Ex → St → Option R × List (Nat × Option Nat)) (ex : Ex) (s : St) : FR R :=
  match ex with
  | .exit _ => (algF R).fail
  | .normal => (match rd .normal s with
    | (some r, rn) => landF n0 st .normal rn (T r) .normal s r
    | (none, _) => (algF R).fail)
  | .ret => (match rd .ret s with
    | (some r, rn) => landF n0 st .ret rn (T r) .ret s r
    | (none, _) => (algF R).fail)
def evBodyT {R : Type} {P : Program} (C : Cfg P) (n : Nat) (f : FuncId) (args : List RV) (hp : Hp) (nx : Nat) (T : R → St) (rd : Ex → St → Option R × List (Nat × Option Nat)) : FR R :=
  match P.funcs[f]? with
  | some fn => (match fn.body with
    | some c => piece (algF R) C n f nx c (startSt fn args hp nx) (bodyK nx (startSt fn args hp nx) T rd)
    | none => (algF R).fail)
  | none => (algF R).fail
theorem eng_body {R : Type} {P : Program} {C : Cfg P} (hf : FactsOk C.facts) {n : Nat} {f : FuncId} {args : List RV} {hp : Hp} {nx : Nat} (T : R → St) (O : R → Out) (rd : Ex → St → Option R × List (Nat × Option Nat)) {o : Option R} (hnm : namesB ⟨args, hp, nx, []⟩ = true) (hO : ∀ r, resO P f (T r) nx = some (O r))
    (h : (fun r : FR R => (r.l, r.o)) (evBodyT C n f args hp nx T rd) = (fun r : FR R => (r.r, o)) (evBodyT C n f args hp nx T rd)) {r : R} (ho : o = some r) : CallOk P f args hp nx (O r) := by
  simp only [Prod.mk.injEq] at h
  subst ho
  obtain ⟨h1, h2⟩ := h
  have hO := hO r
  unfold evBodyT at h1 h2
  unfold resO at hO
  split at h1
  · rename_i fn hfn
    rw [hfn] at h2 hO
    simp only at h2 hO
    split at h1
    · rename_i c hc
      rw [hc] at h2
      simp only at h2
      have hnm' := namesB_spec hnm
      obtain ⟨ex, s, g1, _, g3⟩ := evCode_ok hf (evCall_ok hf n) (jnN_ok hf (evCall_ok hf n) (gsim_J n) _) c (startSt fn args hp nx) (fun ex s => FR.is r (bodyK nx (startSt fn args hp nx) T rd ex s)) (names_pad hnm') (gsim_code (sound_F r) (gsim_call (sound_F r) n) c (startSt fn args hp nx) _ _ (fun ex s hg => hg) ⟨h1, h2⟩)
      have key : ∃ ex', (ex' = .normal ∨ ex' = .ret) ∧ CodeTo P nx c (startSt fn args hp nx) (At1 ex' (T r)) := by
        cases ex with
        | exit i => exact absurd g3 (sound_F r).fail
        | normal =>
          unfold bodyK at g3
          simp only at g3
          split at g3
          · obtain ⟨k1, k2⟩ := landF_ok g1 g3
            subst k1
            exact ⟨_, .inl rfl, k2⟩
          · exact absurd g3 (sound_F r).fail
        | ret =>
          unfold bodyK at g3
          simp only at g3
          split at g3
          · obtain ⟨k1, k2⟩ := landF_ok g1 g3
            subst k1
            exact ⟨_, .inr rfl, k2⟩
          · exact absurd g3 (sound_F r).fail
      obtain ⟨ex', hex, hto⟩ := key
      have hr : evRes algP P fn (T r) nx (fun out => out = O r) := by
        unfold evRes
        split at hO
        · rename_i l hl hask
          rw [hl, hask]
          simpa [obO] using hO
        · cases hO
      obtain ⟨out, k1, k2, k3, k4, k5, l, k6, k7⟩ := evRes_ok hr
      subst k1
      exact callOk_of_to hfn hc hnm' (hto.mono fun ex'' s' hh => by
        obtain ⟨rfl, rfl⟩ := hh
        exact ⟨hex, k3, k4, k5, l, k6, k7⟩)
    · rename_i hc
      rw [hc] at h2
      exact absurd ⟨h1, h2⟩ (sound_F r).fail
  · rename_i hfn
    rw [hfn] at h2
    exact absurd ⟨h1, h2⟩ (sound_F r).fail
/-- A block of one's own, a slice of one's own, under these names. -/
def cellsAt (hp : Hp) (id : Nat) (t : TypeId) : Option (List CV) := match hlook hp id with
  | some (.cells cs t') => bif Nat.beq t' t then some cs else none
  | _ => none
theorem cellsAt_spec {hp : Hp} {id : Nat} {t : TypeId} {cs : List CV} (h : cellsAt hp id t = some cs) : hlook hp id = some (.cells cs t) := by
  unfold cellsAt at h
  split at h
  · rename_i cs' t' ho
    cases hb : Nat.beq t' t with
    | false => rw [hb] at h; cases h
    | true =>
      rw [hb] at h
      cases h
      rw [ho, Nat.eq_of_beq_eq_true hb]
  · cases h
def rowAt (hp : Hp) (id : Nat) (sh : List Sh) (t : TypeId) : Option (List (List Ct)) := match hlook hp id with
  | some (.row sh' t' l) => bif shEqL sh' sh && Nat.beq t' t then some l else none
  | _ => none
theorem rowAt_spec {hp : Hp} {id : Nat} {sh : List Sh} {t : TypeId} {l : List (List Ct)} (h : rowAt hp id sh t = some l) : hlook hp id = some (.row sh t l) := by
  unfold rowAt at h
  split at h
  · rename_i sh' t' l' ho
    cases hb : (shEqL sh' sh && Nat.beq t' t) with
    | false => rw [hb] at h; cases h
    | true =>
      rw [hb] at h
      cases h
      rw [Bool.and_eq_true] at hb
      rw [ho, shEqL_spec hb.1, Nat.eq_of_beq_eq_true hb.2]
  · cases h
end Go.Proofs.Ytonlllijdbjkaaa

/- Contracts that are found by the kinds of their arguments' cells. No condition. -/
set_option linter.unusedVariables false
namespace Go.Proofs.Ytonlllijdbjkaaa
open Go.RowKit

/-- A cell's kind in an argument: a value, a slice that is read, a slice of one's own, a nil slice. -/
inductive CSh where
  | int (k : IntKind)
  | bool
  | str
  | grid (sh : List Sh)
  | row (sh : List Sh) (t : TypeId)
  | nil
  | fn (f : FuncId)
  | tab (k : IntKind) (n : Nat)
/-- An argument's kind: a value, a struct, a pointer to a block of one's own. -/
inductive ASh where
  | one (c : CSh)
  | agg (cs : List CSh)
  | ptr (t : TypeId) (cs : List CSh)
  | clo (f : FuncId) (t : TypeId) (cs : List CSh)
  | bm (f : FuncId) (cs : List CSh)
  | aptr (t : TypeId) (cs : List CSh)
  | clos (f : FuncId) (bs : List (TypeId × List CSh))
def CSh.cv (x : Ct) (n : Nat) : CSh → CV
  | .int k => .val false (.int k x.int)
  | .bool => .val false (.bool x.bool)
  | .str => .val false (.string x.str)
  | .grid _ => .ext n
  | .row _ _ => .ext n
  | .nil => .val true (.slice none 0 0)
  | .fn f => .fn f []
  | .tab k m => .tab k m x.rows
def CSh.hp (x : Ct) (n : Nat) : CSh → Hp
  | .grid sh => [(n, .grid sh x.rows)]
  | .row sh t => [(n, .row sh t x.rows)]
  | _ => []
def CSh.nm : CSh → Nat
  | .grid _ => 1
  | .row _ _ => 1
  | _ => 0
def cvS (x : List Ct) : List CSh → Nat → Nat → List CV
  | [], _, _ => []
  | c :: cs, k, n => c.cv (x.getD k (.i 0)) n :: cvS x cs (k + 1) (n + c.nm)
def hpS (x : List Ct) : List CSh → Nat → Nat → Hp
  | [], _, _ => []
  | c :: cs, k, n => c.hp (x.getD k (.i 0)) n ++ hpS x cs (k + 1) (n + c.nm)
def nmS : List CSh → Nat
  | [] => 0
  | c :: cs => c.nm + nmS cs
def capB : List (TypeId × List CSh) → Nat → List (Nat × Nat)
  | [], _ => []
  | b :: r, n => (n, 0) :: capB r (n + (nmS b.2 + 1))
def hpB (x : List Ct) : List (TypeId × List CSh) → Nat → Nat → Hp
  | [], _, _ => []
  | b :: r, k, n => (n, .cells (cvS x b.2 k (n + 1)) b.1) :: hpS x b.2 k (n + 1) ++ hpB x r (k + b.2.length) (n + (nmS b.2 + 1))
def nmB : List (TypeId × List CSh) → Nat
  | [] => 0
  | b :: r => (nmS b.2 + 1) + nmB r
def lenB : List (TypeId × List CSh) → Nat
  | [] => 0
  | b :: r => b.2.length + lenB r
def toBm : CV → BV
  | .val _ v => .inl v
  | .ext id => .inr id
  | .sl id off len cap => .sl id off len cap
  | _ => .inl undef
theorem toBm_unk (p : BV) : toBm (bmCV p).unk = p := by cases p <;> rfl
theorem toBm_inst (g : Nat → Nat) (c : CV) : toBm (c.inst g).unk = bmMap g (toBm c) := by cases c <;> rfl
def ASh.rv (x : List Ct) (k n : Nat) : ASh → RV
  | .one c => .sv (.one (c.cv (x.getD k (.i 0)) n))
  | .agg cs => .sv (.agg (cvS x cs k n))
  | .ptr _ _ => .sv (.one (.ptr n 0))
  | .clo f _ _ => .sv (.one (.fn f [(n, 0)]))
  | .bm f cs => .sv (.one (.bm f ((cvS x cs k n).map toBm)))
  | .aptr _ _ => .sv (.agg [.ptr n 0])
  | .clos f bs => .sv (.one (.fn f (capB bs n)))
def ASh.hp (x : List Ct) (k n : Nat) : ASh → Hp
  | .one c => c.hp (x.getD k (.i 0)) n
  | .agg cs => hpS x cs k n
  | .ptr t cs => (n, .cells (cvS x cs k (n + 1)) t) :: hpS x cs k (n + 1)
  | .clo _ t cs => (n, .cells (cvS x cs k (n + 1)) t) :: hpS x cs k (n + 1)
  | .bm _ cs => hpS x cs k n
  | .aptr t cs => (n, .cells (cvS x cs k (n + 1)) t) :: hpS x cs k (n + 1)
  | .clos _ bs => hpB x bs k n
def ASh.nm : ASh → Nat
  | .one c => c.nm
  | .agg cs => nmS cs
  | .ptr _ cs => nmS cs + 1
  | .clo _ _ cs => nmS cs + 1
  | .bm _ cs => nmS cs
  | .aptr _ cs => nmS cs + 1
  | .clos _ bs => nmB bs
def ASh.len : ASh → Nat
  | .one _ => 1
  | .agg cs => cs.length
  | .ptr _ cs => cs.length
  | .clo _ _ cs => cs.length
  | .bm _ cs => cs.length
  | .aptr _ cs => cs.length
  | .clos _ bs => lenB bs
def rvA (x : List Ct) : List ASh → Nat → Nat → List RV
  | [], _, _ => []
  | a :: ass, k, n => a.rv x k n :: rvA x ass (k + a.len) (n + a.nm)
def hpA (x : List Ct) : List ASh → Nat → Nat → Hp
  | [], _, _ => []
  | a :: ass, k, n => a.hp x k n ++ hpA x ass (k + a.len) (n + a.nm)
def nmA : List ASh → Nat
  | [] => 0
  | a :: ass => a.nm + nmA ass
/-- What stands there. -/
def mC (hp : Hp) : CSh → CV → Option (Ct × List Nat)
  | .int k, .val _ (.int k' n) => if k = k' then some (.i n, []) else none
  | .bool, .val _ (.bool b) => some (.b b, [])
  | .str, .val _ (.string s) => some (.s s, [])
  | .grid sh, .ext i => (match gridAt hp i sh with
    | some l => some (.l l, [i])
    | none => none)
  | .row sh t, .ext i => (match rowAt hp i sh t with
    | some l => some (.l l, [i])
    | none => none)
  | .nil, .val _ (.slice none 0 0) => some (.i 0, [])
  | .fn f, .fn g [] => bif Nat.beq f g then some (.i 0, []) else none
  | .tab k n, .tab k' n' l => if k = k' ∧ n = n' then some (.l l, []) else none
  | _, _ => none
def mS (hp : Hp) : List CSh → List CV → Option (List Ct × List Nat)
  | [], [] => some ([], [])
  | c :: cs, v :: vs => (match mC hp c v, mS hp cs vs with
    | some (a, i), some (l, r) => some (a :: l, i ++ r)
    | _, _ => none)
  | _, _ => none
def mB (hp : Hp) : List (TypeId × List CSh) → List (Nat × Nat) → Option (List Ct × List Nat)
  | [], [] => some ([], [])
  | b :: bs, (i, 0) :: r => (match cellsAt hp i b.1 with
    | some vs => (match mS hp b.2 vs, mB hp bs r with
      | some (l, q), some (l', q') => some (l ++ l', (i :: q) ++ q')
      | _, _ => none)
    | none => none)
  | _, _ => none
def mA1 (hp : Hp) : ASh → RV → Option (List Ct × List Nat)
  | .one c, .sv (.one v) => (match mC hp c v with
    | some (a, i) => some ([a], i)
    | none => none)
  | .agg cs, .sv (.agg vs) => mS hp cs vs
  | .ptr t cs, .sv (.one (.ptr i 0)) => (match cellsAt hp i t with
    | some vs => (match mS hp cs vs with
      | some (l, r) => some (l, i :: r)
      | none => none)
    | none => none)
  | .clo f t cs, .sv (.one (.fn f' [(i, 0)])) => bif Nat.beq f f' then (match cellsAt hp i t with
    | some vs => (match mS hp cs vs with
      | some (l, r) => some (l, i :: r)
      | none => none)
    | none => none) else none
  | .bm f cs, .sv (.one (.bm f' vs)) => bif Nat.beq f f' then mS hp cs (vs.map bmCV) else none
  | .clos f bs, .sv (.one (.fn f' r)) => bif Nat.beq f f' then mB hp bs r else none
  | .aptr t cs, .sv (.agg [.ptr i 0]) => (match cellsAt hp i t with
    | some vs => (match mS hp cs vs with
      | some (l, r) => some (l, i :: r)
      | none => none)
    | none => none)
  | _, _ => none
def mA (hp : Hp) : List ASh → List RV → Option (List Ct × List Nat)
  | [], [] => some ([], [])
  | a :: ass, v :: vs => (match mA1 hp a v, mA hp ass vs with
    | some (l, i), some (l', r) => some (l ++ l', i ++ r)
    | _, _ => none)
  | _, _ => none

section
variable {hp : Hp} {g : Nat → Nat} {x : List Ct}
/-- From place k and name n on stands what was found. -/
structure At0 (g : Nat → Nat) (x : List Ct) (l : List Ct) (r : List Nat) (k n : Nat) : Prop where
  x : ∀ j, j < l.length → x.getD (k + j) (.i 0) = l.getD j (.i 0)
  g : ∀ j, j < r.length → g (n + j) = r.getD j 0
theorem At0.left {l l' : List Ct} {r r' : List Nat} {k n : Nat} (h : At0 g x (l ++ l') (r ++ r') k n) : At0 g x l r k n :=
  ⟨fun j hj => by rw [h.x j (by simp; omega)]; simp [List.getD, List.getElem?_append_left hj], fun j hj => by rw [h.g j (by simp; omega)]; simp [List.getD, List.getElem?_append_left hj]⟩
theorem At0.right {l l' : List Ct} {r r' : List Nat} {k n : Nat} (h : At0 g x (l ++ l') (r ++ r') k n) : At0 g x l' r' (k + l.length) (n + r.length) :=
  ⟨fun j hj => by rw [Nat.add_assoc, h.x (l.length + j) (by simp; omega)]; simp [List.getD, List.getElem?_append_right], fun j hj => by rw [Nat.add_assoc, h.g (r.length + j) (by simp; omega)]; simp [List.getD, List.getElem?_append_right]⟩
theorem mC_spec {c : CSh} {v : CV} {a : Ct} {i : List Nat} (h : mC hp c v = some (a, i)) : i.length = c.nm ∧ (∀ q ∈ i, q ∈ v.ids) ∧ ∀ n, (∀ j, j < i.length → g (n + j) = i.getD j 0) →
    v.unk = ((c.cv a n).inst g).unk ∧ ∀ id o, (id, o) ∈ c.hp a n → ∃ o', hlook hp (g id) = some o' ∧ o'.unk = (o.inst g).unk := by
  unfold mC at h
  split at h
  · split at h
    · rename_i hk
      cases h
      subst hk
      exact ⟨rfl, fun q hq => (by cases hq), fun n _ => ⟨rfl, fun id o ho => (by cases ho)⟩⟩
    · cases h
  · cases h
    exact ⟨rfl, fun q hq => (by cases hq), fun n _ => ⟨rfl, fun id o ho => (by cases ho)⟩⟩
  · cases h
    exact ⟨rfl, fun q hq => (by cases hq), fun n _ => ⟨rfl, fun id o ho => (by cases ho)⟩⟩
  · split at h
    · rename_i l hg
      cases h
      refine ⟨rfl, fun q hq => by simpa [CV.ids] using hq, fun n hn => ?_⟩
      have h0 := hn 0 (by simp)
      simp only [Nat.add_zero, List.getD_cons_zero] at h0
      refine ⟨by simp [CSh.cv, CV.inst, CV.unk, h0], fun id o ho => ?_⟩
      simp only [CSh.hp, List.mem_singleton, Prod.mk.injEq] at ho
      obtain ⟨rfl, rfl⟩ := ho
      rw [h0]
      exact ⟨_, gridAt_spec hg, rfl⟩
    · cases h
  · split at h
    · rename_i l hg
      cases h
      refine ⟨rfl, fun q hq => by simpa [CV.ids] using hq, fun n hn => ?_⟩
      have h0 := hn 0 (by simp)
      simp only [Nat.add_zero, List.getD_cons_zero] at h0
      refine ⟨by simp [CSh.cv, CV.inst, CV.unk, h0], fun id o ho => ?_⟩
      simp only [CSh.hp, List.mem_singleton, Prod.mk.injEq] at ho
      obtain ⟨rfl, rfl⟩ := ho
      rw [h0]
      exact ⟨_, rowAt_spec hg, rfl⟩
    · cases h
  · cases h
    exact ⟨rfl, fun q hq => (by cases hq), fun n _ => ⟨rfl, fun id o ho => (by cases ho)⟩⟩
  · rename_i f f'
    cases hb : Nat.beq f f' with
    | false => rw [hb] at h; cases h
    | true =>
      rw [hb] at h
      cases h
      rw [Nat.eq_of_beq_eq_true hb]
      exact ⟨rfl, fun q hq => (by cases hq), fun n _ => ⟨rfl, fun id o ho => (by cases ho)⟩⟩
  · split at h
    · rename_i hk
      cases h
      obtain ⟨rfl, rfl⟩ := hk
      exact ⟨rfl, fun q hq => (by cases hq), fun n _ => ⟨rfl, fun id o ho => (by cases ho)⟩⟩
    · cases h
  · cases h
theorem mS_spec : ∀ {cs : List CSh} {vs : List CV} {l : List Ct} {r : List Nat}, mS hp cs vs = some (l, r) → l.length = cs.length ∧ r.length = nmS cs ∧ (∀ q ∈ r, ∃ v ∈ vs, q ∈ v.ids) ∧ ∀ k n, At0 g x l r k n →
    vs.map CV.unk = ((cvS x cs k n).map (CV.inst g)).map CV.unk ∧ ∀ id o, (id, o) ∈ hpS x cs k n → ∃ o', hlook hp (g id) = some o' ∧ o'.unk = (o.inst g).unk := by
  intro cs
  induction cs with
  | nil =>
    intro vs l r h
    cases vs with
    | nil => simp only [mS, Option.some.injEq, Prod.mk.injEq] at h; obtain ⟨rfl, rfl⟩ := h; exact ⟨rfl, rfl, fun q hq => (by cases hq), fun k n _ => ⟨rfl, fun id o ho => (by cases ho)⟩⟩
    | cons v vs => simp [mS] at h
  | cons c cs ih =>
    intro vs l r h
    cases vs with
    | nil => simp [mS] at h
    | cons v vs =>
      simp only [mS] at h
      split at h
      · rename_i a i l' r' h1 h2
        simp only [Option.some.injEq, Prod.mk.injEq] at h
        obtain ⟨rfl, rfl⟩ := h
        obtain ⟨g1, g2, g3⟩ := mC_spec (g := g) h1
        obtain ⟨k1, k2, k3, k4⟩ := ih h2
        refine ⟨by simp [k1], by simp [nmS, g1, k2], fun q hq => ?_, fun k n hat => ?_⟩
        · rcases List.mem_append.1 hq with hq | hq
          · exact ⟨v, List.mem_cons_self, g2 q hq⟩
          · obtain ⟨w, hw, hq⟩ := k3 q hq
            exact ⟨w, List.mem_cons_of_mem _ hw, hq⟩
        · have hat' : At0 g x ([a] ++ l') (i ++ r') k n := hat
          have hx : x.getD k (.i 0) = a := by have := hat'.left.x 0 (by simp); simpa using this
          obtain ⟨q1, q2⟩ := g3 n hat'.left.g
          obtain ⟨q3, q4⟩ := k4 (k + 1) (n + c.nm) (by have := hat'.right; rw [g1] at this; exact this)
          refine ⟨by simp only [cvS, List.map_cons, hx, q1, q3], fun id o ho => ?_⟩
          simp only [hpS, hx] at ho
          rcases List.mem_append.1 ho with ho | ho
          · exact q2 id o ho
          · exact q4 id o ho
      · cases h
theorem mB_spec : ∀ {bs : List (TypeId × List CSh)} {c : List (Nat × Nat)} {l : List Ct} {r : List Nat}, mB hp bs c = some (l, r) → l.length = lenB bs ∧ r.length = nmB bs ∧ (∀ q ∈ r, q ∈ c.map (·.1) ∨ ∃ j ∈ c.map (·.1), ∃ o, hlook hp j = some o ∧ q ∈ o.ids) ∧ ∀ k n, At0 g x l r k n →
    c = (capB bs n).map (fun p => (g p.1, p.2)) ∧ ∀ id o, (id, o) ∈ hpB x bs k n → ∃ o', hlook hp (g id) = some o' ∧ o'.unk = (o.inst g).unk := by
  intro bs
  induction bs with
  | nil =>
    intro c l r h
    cases c with
    | nil => simp only [mB, Option.some.injEq, Prod.mk.injEq] at h; obtain ⟨rfl, rfl⟩ := h; exact ⟨rfl, rfl, fun q hq => (by cases hq), fun k n _ => ⟨rfl, fun id o ho => (by cases ho)⟩⟩
    | cons v vs => simp [mB] at h
  | cons b bs ih =>
    intro c l r h
    rcases c with _ | ⟨⟨i, _ | o⟩, c⟩
    · simp [mB] at h
    · simp only [mB] at h
      split at h
      · rename_i vs hcl
        split at h
        · rename_i l1 q1 l2 q2 hm hr
          simp only [Option.some.injEq, Prod.mk.injEq] at h
          obtain ⟨rfl, rfl⟩ := h
          obtain ⟨k1, k2, k3, k4⟩ := mS_spec (g := g) (x := x) hm
          obtain ⟨j1, j2, j3, j4⟩ := ih hr
          refine ⟨by simp [lenB, k1, j1], by simp only [List.length_append, List.length_cons, nmB, k2, j2], fun q hq => ?_, fun k n hat => ?_⟩
          · rcases List.mem_append.1 hq with hq | hq
            · rcases List.mem_cons.1 hq with rfl | hq
              · exact .inl (by simp)
              · obtain ⟨w, hw, hq⟩ := k3 q hq
                exact .inr ⟨i, by simp, _, cellsAt_spec hcl, List.mem_flatMap.2 ⟨w, hw, hq⟩⟩
            · rcases j3 q hq with hq | ⟨j, hj, hq⟩
              · exact .inl (List.mem_cons_of_mem _ hq)
              · exact .inr ⟨j, List.mem_cons_of_mem _ hj, hq⟩
          · have hL := hat.left
            have hg : g n = i := by have := hL.g 0 (by simp); simpa using this
            have hat' : At0 g x l1 q1 k (n + 1) := ⟨hL.x, fun j hj => by have := hL.g (j + 1) (by simp; omega); rw [show n + (j + 1) = n + 1 + j by omega] at this; simpa using this⟩
            obtain ⟨p1, p2⟩ := k4 k (n + 1) hat'
            obtain ⟨p3, p4⟩ := j4 (k + b.2.length) (n + (nmS b.2 + 1)) (by have := hat.right; rw [k1, List.length_cons, k2] at this; exact this)
            refine ⟨by simp only [capB, List.map_cons, hg, p3], fun id o ho => ?_⟩
            simp only [hpB, List.cons_append, List.mem_cons, Prod.mk.injEq, List.mem_append] at ho
            rcases ho with ⟨rfl, rfl⟩ | ho | ho
            · rw [hg]
              exact ⟨_, cellsAt_spec hcl, by simp only [HO.inst, HO.unk, p1]⟩
            · exact p2 id o ho
            · exact p4 id o ho
        · cases h
      · cases h
    · simp [mB] at h
theorem mA1_spec {a : ASh} {v : RV} {l : List Ct} {r : List Nat} (h : mA1 hp a v = some (l, r)) : l.length = a.len ∧ r.length = a.nm ∧ (∀ q ∈ r, q ∈ v.ids ∨ ∃ j ∈ v.ids, ∃ o, hlook hp j = some o ∧ q ∈ o.ids) ∧ ∀ k n, At0 g x l r k n →
    v.unk = ((a.rv x k n).inst g).unk ∧ ∀ id o, (id, o) ∈ a.hp x k n → ∃ o', hlook hp (g id) = some o' ∧ o'.unk = (o.inst g).unk := by
  unfold mA1 at h
  split at h
  · rename_i c v
    split at h
    · rename_i b i h1
      cases h
      obtain ⟨g1, g2, g3⟩ := mC_spec (g := g) h1
      refine ⟨rfl, g1, fun q hq => .inl (g2 q hq), fun k n hat => ?_⟩
      have hx : x.getD k (.i 0) = b := by have := hat.x 0 (by simp); simpa using this
      obtain ⟨q1, q2⟩ := g3 n hat.g
      exact ⟨by simp only [ASh.rv, hx, RV.inst, SV.inst, RV.unk, SV.unk, q1], fun id o ho => q2 id o (by simpa only [ASh.hp, hx] using ho)⟩
    · cases h
  · rename_i cs vs
    obtain ⟨k1, k2, k3, k4⟩ := mS_spec (g := g) (x := x) h
    refine ⟨k1, k2, fun q hq => .inl ?_, fun k n hat => ?_⟩
    · obtain ⟨w, hw, hq⟩ := k3 q hq
      exact List.mem_flatMap.2 ⟨w, hw, hq⟩
    · obtain ⟨q1, q2⟩ := k4 k n hat
      exact ⟨by simp only [ASh.rv, RV.inst, SV.inst, RV.unk, SV.unk, q1], q2⟩
  · rename_i t cs i
    split at h
    · rename_i vs hc
      split at h
      · rename_i l' r' hm
        cases h
        obtain ⟨k1, k2, k3, k4⟩ := mS_spec (g := g) (x := x) hm
        refine ⟨k1, by simp [ASh.nm, k2], fun q hq => ?_, fun k n hat => ?_⟩
        · rcases List.mem_cons.1 hq with rfl | hq
          · exact .inl (by simp [RV.ids, SV.ids, CV.ids])
          · obtain ⟨w, hw, hq⟩ := k3 q hq
            exact .inr ⟨i, by simp [RV.ids, SV.ids, CV.ids], _, cellsAt_spec hc, List.mem_flatMap.2 ⟨w, hw, hq⟩⟩
        · have hg : g n = i := by have := hat.g 0 (by simp); simpa using this
          have hat' : At0 g x l r' k (n + 1) := ⟨hat.x, fun j hj => by have := hat.g (j + 1) (by simp; omega); rw [show n + (j + 1) = n + 1 + j by omega] at this; simpa using this⟩
          obtain ⟨q1, q2⟩ := k4 k (n + 1) hat'
          refine ⟨by simp [ASh.rv, RV.inst, SV.inst, RV.unk, SV.unk, CV.inst, CV.unk, hg], fun id o ho => ?_⟩
          simp only [ASh.hp, List.mem_cons, Prod.mk.injEq] at ho
          rcases ho with ⟨rfl, rfl⟩ | ho
          · rw [hg]
            exact ⟨_, cellsAt_spec hc, by simp only [HO.inst, HO.unk, q1]⟩
          · exact q2 id o ho
      · cases h
    · cases h
  · rename_i f t cs f' i
    cases hb : Nat.beq f f' with
    | false => rw [hb] at h; cases h
    | true =>
    rw [hb] at h
    simp only [cond_true] at h
    have hff := Nat.eq_of_beq_eq_true hb
    subst hff
    split at h
    · rename_i vs hc
      split at h
      · rename_i l' r' hm
        cases h
        obtain ⟨k1, k2, k3, k4⟩ := mS_spec (g := g) (x := x) hm
        refine ⟨k1, by simp [ASh.nm, k2], fun q hq => ?_, fun k n hat => ?_⟩
        · rcases List.mem_cons.1 hq with rfl | hq
          · exact .inl (by simp [RV.ids, SV.ids, CV.ids])
          · obtain ⟨w, hw, hq⟩ := k3 q hq
            exact .inr ⟨i, by simp [RV.ids, SV.ids, CV.ids], _, cellsAt_spec hc, List.mem_flatMap.2 ⟨w, hw, hq⟩⟩
        · have hg : g n = i := by have := hat.g 0 (by simp); simpa using this
          have hat' : At0 g x l r' k (n + 1) := ⟨hat.x, fun j hj => by have := hat.g (j + 1) (by simp; omega); rw [show n + (j + 1) = n + 1 + j by omega] at this; simpa using this⟩
          obtain ⟨q1, q2⟩ := k4 k (n + 1) hat'
          refine ⟨by simp [ASh.rv, RV.inst, SV.inst, RV.unk, SV.unk, CV.inst, CV.unk, hg], fun id o ho => ?_⟩
          simp only [ASh.hp, List.mem_cons, Prod.mk.injEq] at ho
          rcases ho with ⟨rfl, rfl⟩ | ho
          · rw [hg]
            exact ⟨_, cellsAt_spec hc, by simp only [HO.inst, HO.unk, q1]⟩
          · exact q2 id o ho
      · cases h
    · cases h
  · rename_i f cs f' vs
    cases hb : Nat.beq f f' with
    | false => rw [hb] at h; cases h
    | true =>
    rw [hb] at h
    simp only [cond_true] at h
    have hff := Nat.eq_of_beq_eq_true hb
    subst hff
    obtain ⟨k1, k2, k3, k4⟩ := mS_spec (g := g) (x := x) h
    refine ⟨k1, k2, fun q hq => .inl ?_, fun k n hat => ?_⟩
    · obtain ⟨w, hw, hq⟩ := k3 q hq
      obtain ⟨p, hp', rfl⟩ := List.mem_map.1 hw
      simp only [RV.ids, SV.ids, CV.ids, List.mem_flatMap]
      refine ⟨p, hp', ?_⟩
      cases p with
      | inl v => cases hq
      | inr id => exact hq
      | sl id off len cap => exact hq
    · obtain ⟨q1, q2⟩ := k4 k n hat
      have q3 := congrArg (List.map toBm) q1
      simp only [List.map_map, Function.comp_def, toBm_unk, toBm_inst, List.map_id'] at q3
      exact ⟨by simp only [ASh.rv, RV.inst, SV.inst, RV.unk, SV.unk, CV.inst, CV.unk, List.map_map, Function.comp_def, ← q3], q2⟩
  · rename_i f bs f' r'
    cases hb : Nat.beq f f' with
    | false => rw [hb] at h; cases h
    | true =>
    rw [hb] at h
    simp only [cond_true] at h
    have hff := Nat.eq_of_beq_eq_true hb
    subst hff
    obtain ⟨k1, k2, k3, k4⟩ := mB_spec (g := g) (x := x) h
    refine ⟨k1, k2, fun q hq => ?_, fun k n hat => ?_⟩
    · rcases k3 q hq with hq | ⟨j, hj, o, ho⟩
      · exact .inl (by simpa [RV.ids, SV.ids, CV.ids] using hq)
      · exact .inr ⟨j, by simpa [RV.ids, SV.ids, CV.ids] using hj, o, ho⟩
    · obtain ⟨p1, p2⟩ := k4 k n hat
      exact ⟨by simp only [ASh.rv, RV.inst, SV.inst, RV.unk, SV.unk, CV.inst, CV.unk, ← p1], p2⟩
  · rename_i t cs i
    split at h
    · rename_i vs hc
      split at h
      · rename_i l' r' hm
        cases h
        obtain ⟨k1, k2, k3, k4⟩ := mS_spec (g := g) (x := x) hm
        refine ⟨k1, by simp [ASh.nm, k2], fun q hq => ?_, fun k n hat => ?_⟩
        · rcases List.mem_cons.1 hq with rfl | hq
          · exact .inl (by simp [RV.ids, SV.ids, CV.ids])
          · obtain ⟨w, hw, hq⟩ := k3 q hq
            exact .inr ⟨i, by simp [RV.ids, SV.ids, CV.ids], _, cellsAt_spec hc, List.mem_flatMap.2 ⟨w, hw, hq⟩⟩
        · have hg : g n = i := by have := hat.g 0 (by simp); simpa using this
          have hat' : At0 g x l r' k (n + 1) := ⟨hat.x, fun j hj => by have := hat.g (j + 1) (by simp; omega); rw [show n + (j + 1) = n + 1 + j by omega] at this; simpa using this⟩
          obtain ⟨q1, q2⟩ := k4 k (n + 1) hat'
          refine ⟨by simp [ASh.rv, RV.inst, SV.inst, RV.unk, SV.unk, CV.inst, CV.unk, hg], fun id o ho => ?_⟩
          simp only [ASh.hp, List.mem_cons, Prod.mk.injEq] at ho
          rcases ho with ⟨rfl, rfl⟩ | ho
          · rw [hg]
            exact ⟨_, cellsAt_spec hc, by simp only [HO.inst, HO.unk, q1]⟩
          · exact q2 id o ho
      · cases h
    · cases h
  · cases h
theorem mA_spec : ∀ {ass : List ASh} {vs : List RV} {l : List Ct} {r : List Nat}, mA hp ass vs = some (l, r) → r.length = nmA ass ∧ (∀ q ∈ r, ∃ a ∈ vs, q ∈ a.ids ∨ ∃ j ∈ a.ids, ∃ o, hlook hp j = some o ∧ q ∈ o.ids) ∧ ∀ k n, At0 g x l r k n →
    vs.map RV.unk = ((rvA x ass k n).map (RV.inst g)).map RV.unk ∧ ∀ id o, (id, o) ∈ hpA x ass k n → ∃ o', hlook hp (g id) = some o' ∧ o'.unk = (o.inst g).unk := by
  intro ass
  induction ass with
  | nil =>
    intro vs l r h
    cases vs with
    | nil => simp only [mA, Option.some.injEq, Prod.mk.injEq] at h; obtain ⟨rfl, rfl⟩ := h; exact ⟨rfl, fun q hq => (by cases hq), fun k n _ => ⟨rfl, fun id o ho => (by cases ho)⟩⟩
    | cons v vs => simp [mA] at h
  | cons a ass ih =>
    intro vs l r h
    cases vs with
    | nil => simp [mA] at h
    | cons v vs =>
      simp only [mA] at h
      split at h
      · rename_i l1 i l' r' h1 h2
        simp only [Option.some.injEq, Prod.mk.injEq] at h
        obtain ⟨rfl, rfl⟩ := h
        obtain ⟨g1, g2, g3, g4⟩ := mA1_spec (g := g) (x := x) h1
        obtain ⟨k1, k2, k3⟩ := ih h2
        refine ⟨by simp [nmA, g2, k1], fun q hq => ?_, fun k n hat => ?_⟩
        · rcases List.mem_append.1 hq with hq | hq
          · exact ⟨v, List.mem_cons_self, g3 q hq⟩
          · obtain ⟨w, hw, hq⟩ := k2 q hq
            exact ⟨w, List.mem_cons_of_mem _ hw, hq⟩
        · obtain ⟨q1, q2⟩ := g4 k n hat.left
          obtain ⟨q3, q4⟩ := k3 (k + a.len) (n + a.nm) (by have := hat.right; rw [g1, g2] at this; exact this)
          refine ⟨by simp only [rvA, List.map_cons, q1, q3], fun id o ho => ?_⟩
          simp only [hpA] at ho
          rcases List.mem_append.1 ho with ho | ho
          · exact q2 id o ho
          · exact q4 id o ho
      · cases h
end
/-- A contract by its arguments' kinds: x are their cells. -/
def conS (P : Program) (f : FuncId) (ass : List ASh) (pre : List Ct → Option Bool) (out0 : List Ct → Out)
    (ok : ∀ x, Must (pre x) → namesB ⟨rvA x ass 0 0, hpA x ass 0 0, nmA ass, []⟩ = true ∧ outB (nmA ass) (out0 x) = true ∧ CallOk P f (rvA x ass 0 0) (hpA x ass 0 0) (nmA ass) (out0 x)) : Con P :=
  conX P f (fun args hp => mA hp ass args) (nmA ass) (fun x => rvA x ass 0 0) (fun x => hpA x ass 0 0) pre out0
    (by
      intro args hp x r h
      refine ⟨(mA_spec (g := fun i => i) (x := x) h).1, fun nx => ?_⟩
      have hlen := (mA_spec (g := fun i => i) (x := x) h).1
      obtain ⟨_, k2, k3⟩ := mA_spec (g := instId r (nmA ass) nx) (x := x) h
      obtain ⟨q1, q2⟩ := k3 0 0 ⟨fun j _ => by rw [Nat.zero_add], fun j hj => by
        have : Nat.blt j (nmA ass) = true := Nat.ble_eq_true_of_le (by omega)
        unfold instId
        rw [Nat.zero_add, this]; rfl⟩
      exact ⟨q1, k2, fun id o0 ho => q2 id o0 (hlook_mem ho)⟩)
    ok
/-- The slice that begins a package variable's block, and the name that tells so. -/
def tieAt (hp : Hp) (g : Nat) : Hp → Option (Nat × Nat)
  | [] => none
  | (i, .tie true _ x) :: r => bif Nat.beq x g then (match hlook hp i with
    | some (.tie true k x') => bif Nat.beq x' g then some (k, i) else tieAt hp g r
    | _ => tieAt hp g r) else tieAt hp g r
  | _ :: r => tieAt hp g r
theorem tieAt_ok {hp : Hp} {g k i : Nat} : ∀ {l : Hp}, tieAt hp g l = some (k, i) → hlook hp i = some (.tie true k g) := by
  intro l
  induction l with
  | nil => intro h; cases h
  | cons p l ih =>
    obtain ⟨i1, o⟩ := p
    intro h
    unfold tieAt at h
    split at h
    · rename_i heq; cases heq
    · rename_i i2 k1 x r heq
      cases heq
      cases hb : Nat.beq x g with
      | false => rw [hb] at h; exact ih h
      | true =>
        rw [hb] at h
        simp only [cond_true] at h
        split at h
        · rename_i k' c' ho
          cases hb' : Nat.beq c' g with
          | false => rw [hb'] at h; exact ih h
          | true =>
            rw [hb'] at h
            cases h
            obtain rfl := Nat.eq_of_beq_eq_true hb'
            exact ho
        · exact ih h
    · rename_i p r _ heq
      cases heq
      exact ih h
/-- A package variable's numbers, and the arguments. -/
def mAG (g : Nat) (sh : List Sh) (hp : Hp) (ass : List ASh) (args : List RV) : Option (List Ct × List Nat) :=
  match tieAt hp g hp, mA hp ass args with
  | some (k, i), some (l, r) => (match gridAt hp k sh with
    | some rows => some (.l rows :: l, k :: i :: r)
    | none => none)
  | _, _ => none
def hpAG (x : List Ct) (g : Nat) (sh : List Sh) (ass : List ASh) : Hp := (0, .grid sh (x.getD 0 (.i 0)).rows) :: (1, .tie true 0 g) :: hpA x ass 1 2
/-- A contract of a function that reads a package variable. -/
def conSG (P : Program) (f : FuncId) (g : Nat) (sh : List Sh) (ass : List ASh) (pre : List Ct → Option Bool) (out0 : List Ct → Out)
    (ok : ∀ x, Must (pre x) → namesB ⟨rvA x ass 1 2, hpAG x g sh ass, nmA ass + 2, []⟩ = true ∧ outB (nmA ass + 2) (out0 x) = true ∧ CallOk P f (rvA x ass 1 2) (hpAG x g sh ass) (nmA ass + 2) (out0 x)) : Con P :=
  conX2 P f (fun args hp => mAG g sh hp ass args) (nmA ass + 2) (fun x => rvA x ass 1 2) (fun x => hpAG x g sh ass) pre out0
    (by
      intro args hp x r h
      unfold mAG at h
      split at h
      · rename_i k i l r' ht hA
        split at h
        · rename_i rows hg
          cases h
          have hlen := (mA_spec (g := fun i => i) (x := .l rows :: l) hA).1
          refine ⟨by simp [hlen], fun nx => ?_⟩
          obtain ⟨_, k2, k3⟩ := mA_spec (g := instId (k :: i :: r') (nmA ass + 2) nx) (x := .l rows :: l) hA
          have low : ∀ j, j < nmA ass + 2 → instId (k :: i :: r') (nmA ass + 2) nx j = (k :: i :: r').getD j 0 := fun j hj => by
            have : Nat.blt j (nmA ass + 2) = true := Nat.ble_eq_true_of_le hj
            unfold instId
            rw [this]; rfl
          have i0 : instId (k :: i :: r') (nmA ass + 2) nx 0 = k := low 0 (by omega)
          have i1 : instId (k :: i :: r') (nmA ass + 2) nx 1 = i := low 1 (by omega)
          obtain ⟨q1, q2⟩ := k3 1 2 ⟨fun j _ => by rw [Nat.add_comm 1 j]; rfl, fun j hj => by
            rw [low (2 + j) (by omega), Nat.add_comm 2 j]; rfl⟩
          refine ⟨q1, fun q hq => ?_, fun id o0 ho => ?_⟩
          · rcases List.mem_cons.1 hq with rfl | hq
            · exact .inr ⟨_, gridAt_spec hg⟩
            · rcases List.mem_cons.1 hq with rfl | hq
              · exact .inr ⟨_, tieAt_ok ht⟩
              · exact .inl (k2 q hq)
          · have := hlook_mem ho
            simp only [hpAG, List.mem_cons, Prod.mk.injEq] at this
            rcases this with ⟨rfl, rfl⟩ | ⟨rfl, rfl⟩ | hm
            · rw [i0]; exact ⟨_, gridAt_spec hg, rfl⟩
            · rw [i1]; exact ⟨_, tieAt_ok ht, by simp only [HO.inst, i0]⟩
            · exact q2 id o0 hm
        · cases h
      · cases h)
    ok
/-- The last argument is a part of the slice of one's own whose name is the j-th one found. -/
def mAP (hp : Hp) (ass : List ASh) (j w : Nat) (args : List RV) : Option (List Ct × List Nat) :=
  match mA hp ass args.dropLast, args.getLast? with
  | some (l, r), some (.sv (.one (.ext id))) => (match hlook hp id with
    | some (.part q i w' n) => bif Nat.beq w' w && Nat.blt j r.length && Nat.beq (r.getD j 0) q then some (l ++ [.i i, .i n], r ++ [id]) else none
    | _ => none)
  | _, _ => none
def lenA : List ASh → Nat
  | [] => 0
  | a :: ass => a.len + lenA ass
def hpAP (x : List Ct) (ass : List ASh) (j w : Nat) : Hp := hpA x ass 0 0 ++ [(nmA ass, .part j (x.getD (lenA ass) (.i 0)).int.toNat w (x.getD (lenA ass + 1) (.i 0)).int.toNat)]
theorem mA_len {hp : Hp} : ∀ {ass : List ASh} {vs : List RV} {l : List Ct} {r : List Nat}, mA hp ass vs = some (l, r) → l.length = lenA ass := by
  intro ass
  induction ass with
  | nil =>
    intro vs l r h
    cases vs with
    | nil => simp only [mA, Option.some.injEq, Prod.mk.injEq] at h; obtain ⟨rfl, rfl⟩ := h; rfl
    | cons v vs => simp [mA] at h
  | cons a ass ih =>
    intro vs l r h
    cases vs with
    | nil => simp [mA] at h
    | cons v vs =>
      simp only [mA] at h
      split at h
      · rename_i l1 i l' r' h1 h2
        simp only [Option.some.injEq, Prod.mk.injEq] at h
        obtain ⟨rfl, rfl⟩ := h
        rw [List.length_append, (mA1_spec (g := fun i => i) (x := []) h1).1, ih h2]; rfl
      · cases h
/-- A contract of a function whose last argument is a part of such a slice. -/
def conSP (P : Program) (f : FuncId) (ass : List ASh) (j w : Nat) (pre : List Ct → Option Bool) (out0 : List Ct → Out)
    (ok : ∀ x, Must (pre x) → namesB ⟨rvA x ass 0 0 ++ [.sv (.one (.ext (nmA ass)))], hpAP x ass j w, nmA ass + 1, []⟩ = true ∧ outB (nmA ass + 1) (out0 x) = true ∧ CallOk P f (rvA x ass 0 0 ++ [.sv (.one (.ext (nmA ass)))]) (hpAP x ass j w) (nmA ass + 1) (out0 x)) : Con P :=
  conX2 P f (fun args hp => mAP hp ass j w args) (nmA ass + 1) (fun x => rvA x ass 0 0 ++ [.sv (.one (.ext (nmA ass)))]) (fun x => hpAP x ass j w) pre out0
    (by
      intro args hp x r h
      unfold mAP at h
      split at h
      · rename_i l r' id hA hL
        split at h
        · rename_i q i w' n ho
          cases hb : (Nat.beq w' w && Nat.blt j r'.length && Nat.beq (r'.getD j 0) q) with
          | false => rw [hb] at h; cases h
          | true =>
            rw [hb] at h
            cases h
            simp only [Bool.and_eq_true] at hb
            obtain ⟨⟨b1, b2⟩, b3⟩ := hb
            obtain rfl := Nat.eq_of_beq_eq_true b1
            obtain rfl := Nat.eq_of_beq_eq_true b3
            have b2 : j < r'.length := Nat.le_of_ble_eq_true b2
            have hlen := (mA_spec (g := fun i => i) (x := l) hA).1
            have hll := mA_len hA
            have hsplit : args = args.dropLast ++ [.sv (.one (.ext id))] := by
              obtain ⟨ys, hy⟩ := List.getLast?_eq_some_iff.1 hL
              rw [hy, List.dropLast_concat]
            refine ⟨by simp [hlen], fun nx => ?_⟩
            obtain ⟨_, k2, k3⟩ := mA_spec (g := instId (r' ++ [id]) (nmA ass + 1) nx) (x := l ++ [.i i, .i n]) hA
            have low : ∀ m, m < nmA ass + 1 → instId (r' ++ [id]) (nmA ass + 1) nx m = (r' ++ [id]).getD m 0 := fun m hm => by
              have : Nat.blt m (nmA ass + 1) = true := Nat.ble_eq_true_of_le hm
              unfold instId
              rw [this]; rfl
            have lowr : ∀ m, m < r'.length → instId (r' ++ [id]) (nmA ass + 1) nx m = r'.getD m 0 := fun m hm => by
              rw [low m (by omega)]; simp [List.getD, List.getElem?_append_left hm]
            have hid : instId (r' ++ [id]) (nmA ass + 1) nx (nmA ass) = id := by
              rw [low _ (by omega), ← hlen]; simp [List.getD]
            obtain ⟨q1, q2⟩ := k3 0 0 ⟨fun m hm => by rw [Nat.zero_add]; simp [List.getD, List.getElem?_append_left hm], fun m hm => by rw [Nat.zero_add, lowr m hm]⟩
            have x0 : (l ++ [Ct.i i, Ct.i n]).getD (lenA ass) (.i 0) = .i i := by rw [← hll]; simp [List.getD]
            have x1 : (l ++ [Ct.i i, Ct.i n]).getD (lenA ass + 1) (.i 0) = .i n := by rw [← hll]; simp [List.getD]
            refine ⟨?_, fun m hm => ?_, fun m o0 hm => ?_⟩
            · rw [hsplit, List.map_append, List.map_append, List.map_append, q1]
              simp only [List.map_cons, List.map_nil, RV.inst, SV.inst, CV.inst, RV.unk, SV.unk, CV.unk, hid]
            · rcases List.mem_append.1 hm with hm | hm
              · obtain ⟨v, hv, hh⟩ := k2 m hm
                exact .inl ⟨v, by rw [hsplit]; exact List.mem_append_left _ hv, hh⟩
              · rw [List.mem_singleton] at hm
                subst hm
                exact .inr ⟨_, ho⟩
            · have := hlook_mem hm
              rcases List.mem_append.1 this with h | h
              · exact q2 m o0 h
              · simp only [List.mem_singleton, Prod.mk.injEq] at h
                obtain ⟨rfl, rfl⟩ := h
                rw [hid]
                refine ⟨_, ho, ?_⟩
                simp only [x0, x1, HO.inst, lowr j b2, Ct.int, Int.toNat_natCast]
        · cases h
      · cases h)
    ok
/-- Two contracts of one function: the second where the first does not fit. -/
def Con.or {P : Program} (a b : Con P) (hf : b.f = a.f) : Con P where
  f := a.f
  g := fun args hp nx => match a.g args hp nx with
    | some q => some q
    | none => b.g args hp nx
  ok := by
    intro args hp nx p out hn h hp'
    split at h
    · rename_i q hq
      cases h
      exact a.ok args hp nx p out hn hq hp'
    · rw [← hf]
      exact b.ok args hp nx p out hn h hp'
end Go.Proofs.Ytonlllijdbjkaaa
