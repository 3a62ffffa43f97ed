/- A symbolic way through the code of a call: pieces of code, loops whose number of rounds is open; a call's answer under whatever names. No condition. -/
import Derived.Test.YthgneojhhocflaaEng12
set_option linter.unusedVariables false
namespace Go.Proofs.Ythgneojhhocflaa
open Go.RowKit

def sameEx : Ex → Ex → Bool
  | .normal, .normal => true
  | .exit i, .exit j => Nat.beq i j
  | .ret, .ret => true
  | _, _ => false
theorem sameEx_spec {x y : Ex} (h : sameEx x y = true) : x = y := by
  cases x with
  | normal => cases y with
    | normal => rfl
    | exit j => cases h
    | ret => cases h
  | exit i => cases y with
    | normal => cases h
    | exit j =>
      have h' : Nat.beq i j = true := h
      rw [Nat.eq_of_beq_eq_true h']
    | ret => cases h
  | ret => cases y with
    | normal => cases h
    | exit j => cases h
    | ret => rfl
def landK (n0 : Nat) (ex0 : Ex) (rn : List (Nat × Option Nat)) (S : St) (ex : Ex) (s : St) : Two := bif sameEx ex ex0 then evLand algT n0 rn S s ([], []) else algT.fail
/-- A piece of code, from place to place. -/
theorem eng_piece {P : Program} {C : Cfg P} (hf : FactsOk C.facts) {n : Nat} {f : FuncId} {n0 : Nat} {c : Code} {st S : St} {ex0 : Ex} {rn : List (Nat × Option Nat)}
    (hb : (Nat.ble st.nx S.nx && st.W.all (fun i => Nat.ble n0 i || S.W.any (Nat.beq i))) = true)
    (h : (evCode algT P C.facts (evCall algT C n) (C.hooks f) (jnN P C.facts (evCallJ C n) (C.hooks f) n0 (C.am f) (C.join f)) n0 (C.am f) c st (landK n0 ex0 rn S)).1 = (evCode algT P C.facts (evCall algT C n) (C.hooks f) (jnN P C.facts (evCallJ C n) (C.hooks f) n0 (C.am f) (C.join f)) n0 (C.am f) c st (landK n0 ex0 rn S)).2) : CodeTo P n0 c st (At1 ex0 S) := by
  intro hn
  simp only [Bool.and_eq_true, List.all_eq_true, Bool.or_eq_true] at hb
  obtain ⟨ex, s, h1, _, h3⟩ := evCode_ok hf (evCall_ok hf n) (jnN_ok hf (evCall_ok hf n) (gsim_J n) _) c st (fun ex s => Good (landK n0 ex0 rn S ex s)) hn (sim_code (sim_call n) c st _ _ (fun ex s hg => hg) h)
  refine CodeTo.land h1 (Nat.le_of_ble_eq_true hb.1) (fun i hi hlt => ?_) (fun ex' s' hh => ?_) hn
  · rcases hb.2 i hi with h' | h'
    · have := Nat.le_of_ble_eq_true h'; omega
    · obtain ⟨q, hq, hbq⟩ := List.any_eq_true.1 h'; rw [Nat.eq_of_beq_eq_true hbq]; exact hq
  · obtain ⟨rfl, rfl⟩ := hh
    unfold landK at h3
    cases hs : sameEx ex' ex0 with
    | false => rw [hs] at h3; exact good_fail h3
    | true =>
      rw [hs] at h3
      have h4 := sim_land (K' := True) (fun _ => trivial) h3
      unfold evLand at h4
      cases hl : landB n0 rn S s' with
      | false => rw [hl] at h4; exact False.elim h4
      | true =>
        rw [hl] at h4
        simp only [cond_true] at h4
        split at h4
        · rename_i p hp
          have h5 := h4.1
          simp only [Item.st.injEq] at h5
          exact ⟨⟨sameEx_spec hs, rfl⟩, rn, p, hl, hp, h5.1, h5.2⟩
        · exact False.elim h4
/-- A loop's rounds: on, or out. -/
def iter {V R : Type} (step : V → Option (V ⊕ R)) : Nat → V → Option R
  | 0, _ => none
  | n + 1, v => match step v with
    | none => none
    | some (.inl v') => iter step n v'
    | some (.inr r) => some r
def exOut (id : Nat) : Ex → Ex
  | .exit i => bif Nat.beq i id then .normal else .exit i
  | e => e
def StepOk {V R : Type} (P : Program) (n0 : Nat) (c : Code) (S : V → St) (T : R → Ex × St) (v : V) : Option (V ⊕ R) → Prop
  | none => True
  | some (.inl v') => CodeTo P n0 c (S v) (At1 .normal (S v'))
  | some (.inr r) => (T r).1 ≠ .normal ∧ CodeTo P n0 c (S v) (At1 (T r).1 (T r).2)
theorem CodeTo.iter {V R : Type} {P : Program} {n0 : Nat} {c : Code} {S : V → St} {T : R → Ex × St} {id : Nat} {step : V → Option (V ⊕ R)} (hs : ∀ v, StepOk P n0 c S T v (step v)) {n : Nat} {v : V} {r : R} (h : iter step n v = some r) :
    CodeTo P n0 (.block id (.loop c)) (S v) (At1 (exOut id (T r).1) (T r).2) := by
  have key : ∀ (n : Nat) (v : V) (r : R), Go.Proofs.Ythgneojhhocflaa.iter step n v = some r → RoundsTo P n0 c n (S v) (At1 (T r).1 (T r).2) ∧ (T r).1 ≠ .normal := by
    intro n
    induction n with
    | zero => intro v r h; cases h
    | succ n ih =>
      intro v r h
      have hv := hs v
      simp only [Go.Proofs.Ythgneojhhocflaa.iter] at h
      split at h
      · cases h
      · rename_i v' hv'
        rw [hv'] at hv
        have h2 := ih v' r h
        exact ⟨RoundsTo.round hv (fun s hs => by rw [hs.2]; exact h2.1) (fun ex s hne hR => absurd hR.1 hne), h2.2⟩
      · rename_i r' hr'
        rw [hr'] at hv
        cases h
        exact ⟨RoundsTo.round hv.2 (fun s hs => absurd hs.1.symm hv.1) (fun ex s hne hR => hR), hv.1⟩
  obtain ⟨h1, h2⟩ := key n v r h
  refine CodeTo.block (CodeTo.loop h1) (fun s hs => absurd hs.1.symm h2) (fun s hs => ⟨?_, hs.2⟩) (fun i s hne hs => ⟨?_, hs.2⟩) (fun s hs => ⟨?_, hs.2⟩)
  · rw [← hs.1]; simp [exOut, Nat.beq_refl]
  · rw [← hs.1]
    cases hb : Nat.beq i id with
    | true => exact absurd (Nat.eq_of_beq_eq_true hb) hne
    | false => simp [exOut, hb]
  · rw [← hs.1]; rfl

/-! ### A call's answer, under the caller's names -/
/-- r: the call's own names, each the caller's. Names from nx0 on are new: they become nx, nx + 1 .. -/
def instId (r : List Nat) (nx0 nx id : Nat) : Nat := bif Nat.blt id nx0 then r.getD id 0 else id - nx0 + nx
def CV.inst (g : Nat → Nat) : CV → CV
  | .val k v => .val k v
  | .ptr id off => .ptr (g id) off
  | .eptr id off => .eptr (g id) off
  | .sl id off len cap => .sl (g id) off len cap
  | .ext id => .ext (g id)
  | .fn f caps => .fn f (caps.map fun p => (g p.1, p.2))
  | .bm f cs => .bm f (cs.map (bmMap g))
def SV.inst (g : Nat → Nat) : SV → SV
  | .one c => .one (c.inst g)
  | .agg cs => .agg (cs.map (CV.inst g))
def RV.inst (g : Nat → Nat) : RV → RV
  | .sv s => .sv (s.inst g)
  | .tup l => .tup (l.map (SV.inst g))
  | .dead => .dead
def HO.inst (g : Nat → Nat) : HO → HO
  | .cells cs t => .cells (cs.map (CV.inst g)) t
  | .elem id i w => .elem (g id) i w
  | o => o
def Out.inst (g : Nat → Nat) (nx : Nat) (out : Out) : Out := ⟨out.v.inst g, out.up.map (fun p => (g p.1, p.2.inst g)), nx, out.W.map g⟩
theorem CV.inst_den {g : Nat → Nat} {e e0 : Env} {c : CV} (h : ∀ id ∈ c.ids, e.ρ (g id) = e0.ρ id ∧ e.σ (g id) = e0.σ id) : (c.inst g).den e = c.den e0 := by
  cases c with
  | val k v => rfl
  | ptr id off => simp [CV.inst, CV.den, (h id (by simp [CV.ids])).1]
  | eptr id off => simp [CV.inst, CV.den, Env.blk, Env.off, (h id (by simp [CV.ids])).2]
  | sl id off len cap => simp [CV.inst, CV.den, (h id (by simp [CV.ids])).1]
  | ext id => simp [CV.inst, CV.den, Env.slv, (h id (by simp [CV.ids])).2]
  | fn f caps =>
    simp only [CV.inst, CV.den, Value.func.injEq, true_and, List.map_map]
    congr 1
    refine List.map_congr_left fun p hp => ?_
    have := (h p.1 (by simp only [CV.ids, List.mem_map]; exact ⟨p, hp, rfl⟩)).1
    simp [Function.comp, Env.ptr, this]
  | bm f cs =>
    have : (cs.map (bmMap g)).map (bmDen e) = cs.map (bmDen e0) := by
      rw [List.map_map]
      refine List.map_congr_left fun p hp => ?_
      cases p with
      | inl v => rfl
      | inr id => simp [bmMap, bmDen, Env.slv, (h id (by simp only [CV.ids, List.mem_flatMap]; exact ⟨_, hp, by simp [bmIds]⟩)).2]
      | sl id off len cap => simp [bmMap, bmDen, (h id (by simp only [CV.ids, List.mem_flatMap]; exact ⟨_, hp, by simp [bmIds]⟩)).1]
    simp only [CV.inst, CV.den, this]
theorem SV.inst_den {g : Nat → Nat} {e e0 : Env} {s : SV} (h : ∀ id ∈ s.ids, e.ρ (g id) = e0.ρ id ∧ e.σ (g id) = e0.σ id) : (s.inst g).den e = s.den e0 := by
  cases s with
  | one c => exact CV.inst_den h
  | agg cs =>
    simp only [SV.inst, SV.den, List.map_map]
    congr 2
    exact List.map_congr_left fun c hc => CV.inst_den fun id hi => h id (List.mem_flatMap.2 ⟨c, hc, hi⟩)
theorem RV.inst_den {g : Nat → Nat} {e e0 : Env} {r : RV} (h : ∀ id ∈ r.ids, e.ρ (g id) = e0.ρ id ∧ e.σ (g id) = e0.σ id) : (r.inst g).den e = r.den e0 := by
  cases r with
  | sv s => exact SV.inst_den h
  | tup l =>
    simp only [RV.inst, RV.den, List.map_map]
    congr 2
    exact List.map_congr_left fun c hc => SV.inst_den fun id hi => h id (List.mem_flatMap.2 ⟨c, hc, hi⟩)
  | dead => rfl
structure SameAt (g : Nat → Nat) (e e0 : Env) (id : Nat) : Prop where
  ρ : e.ρ (g id) = e0.ρ id
  σ : e.σ (g id) = e0.σ id
  φ : e.φ (g id) = e0.φ id
theorem HO.inst_holds {g : Nat → Nat} {e e0 : Env} {w : World} {id : Nat} {o : HO} (hid : SameAt g e e0 id) (h : ∀ i ∈ o.ids, SameAt g e e0 i) : ((o.inst g).holds e w (g id) ↔ o.holds e0 w id) ∧ (∀ b, (o.inst g).owns e (g id) b ↔ o.owns e0 id b) ∧ ∀ b, (o.inst g).foot e (g id) b ↔ o.foot e0 id b := by
  have hslv : e.slv (g id) = e0.slv id := by simp [Env.slv, hid.σ]
  cases o with
  | cells cs t =>
    have : (cs.map (CV.inst g)).map (CV.den e) = cs.map (CV.den e0) := by
      rw [List.map_map]
      exact List.map_congr_left fun c hc => CV.inst_den fun i hi => ⟨(h i (List.mem_flatMap.2 ⟨c, hc, hi⟩)).ρ, (h i (List.mem_flatMap.2 ⟨c, hc, hi⟩)).σ⟩
    simp only [HO.inst, HO.holds, HO.owns, HO.foot, this, hid.ρ, implies_true, and_self]
  | grid sh l => simp only [HO.inst, HO.holds, HO.owns, HO.foot, hslv, hid.φ, implies_true, and_self]
  | row sh t l => simp only [HO.inst, HO.holds, HO.owns, HO.foot, hslv, hid.φ, implies_true, and_self]
  | elem i q wd =>
    have := h i (by simp [HO.ids])
    simp only [HO.inst, HO.holds, HO.owns, HO.foot, this.σ, hid.σ, implies_true, and_self]
  | gone => simp only [HO.inst, HO.holds, HO.owns, HO.foot, implies_true, and_self]
theorem hlook_inst {g : Nat → Nat} {B : Nat → Prop} (hg : ∀ i j, B i → B j → g i = g j → i = j) : ∀ {hp : Hp} {id : Nat} {o : HO}, (∀ p ∈ hp, B p.1) → hlook (hp.map fun p => (g p.1, p.2.inst g)) id = some o → ∃ i o', id = g i ∧ hlook hp i = some o' ∧ o = o'.inst g := by
  intro hp
  induction hp with
  | nil => intro id o _ h; cases h
  | cons p hp ih =>
    obtain ⟨i, o1⟩ := p
    intro id o hb h
    simp only [List.map_cons, hlook] at h
    cases hbq : Nat.beq (g i) id with
    | true =>
      rw [hbq] at h
      cases h
      refine ⟨i, o1, (Nat.eq_of_beq_eq_true hbq).symm, ?_, rfl⟩
      simp [hlook, Nat.beq_refl]
    | false =>
      rw [hbq] at h
      obtain ⟨j, o2, h1, h2, h3⟩ := ih (fun q hq => hb q (List.mem_cons_of_mem _ hq)) h
      refine ⟨j, o2, h1, ?_, h3⟩
      simp only [hlook]
      cases hij : Nat.beq i j with
      | true =>
        have : i = j := Nat.eq_of_beq_eq_true hij
        rw [this, ← h1, Nat.beq_refl] at hbq
        cases hbq
      | false => exact h2
theorem hlook_inst_of {g : Nat → Nat} (hg : ∀ i j, g i = g j → i = j) : ∀ {hp : Hp} {id : Nat} {o : HO}, hlook (hp.map fun p => (g p.1, p.2.inst g)) id = some o → ∃ i o', id = g i ∧ hlook hp i = some o' ∧ o = o'.inst g :=
  fun h => hlook_inst (B := fun _ => True) (fun i j _ _ => hg i j) (fun _ _ => trivial) h
def outB (nx0 : Nat) (out : Out) : Bool := Nat.ble nx0 out.nx && out.v.ids.all (fun i => Nat.blt i out.nx) && out.up.all (fun p => Nat.blt p.1 out.nx && p.2.ids.all fun i => Nat.blt i out.nx) && out.W.all (fun i => Nat.blt i nx0)
theorem instId_inj {r : List Nat} {nx0 nx : Nat} (hr : r.length = nx0) (hd : r.Nodup) (hlt : ∀ i ∈ r, i < nx) : ∀ i j, instId r nx0 nx i = instId r nx0 nx j → i = j := by
  have low : ∀ i, i < nx0 → instId r nx0 nx i = r.getD i 0 ∧ instId r nx0 nx i < nx := by
    intro i hi
    have h1 : instId r nx0 nx i = r.getD i 0 := by unfold instId; rw [show Nat.blt i nx0 = true from Nat.ble_eq_true_of_le hi]; rfl
    refine ⟨h1, ?_⟩
    rw [h1, List.getD_eq_getElem?_getD, List.getElem?_eq_getElem (by omega)]
    exact hlt _ (List.getElem_mem _)
  have high : ∀ i, ¬ i < nx0 → instId r nx0 nx i = i - nx0 + nx := by
    intro i hi
    unfold instId
    cases hb : Nat.blt i nx0 with
    | true => exact absurd (blt_spec hb) hi
    | false => rfl
  intro i j h
  by_cases hi : i < nx0 <;> by_cases hj : j < nx0
  · rw [(low i hi).1, (low j hj).1] at h
    rw [List.getD_eq_getElem?_getD, List.getElem?_eq_getElem (by omega), List.getD_eq_getElem?_getD, List.getElem?_eq_getElem (by omega)] at h
    have h' : r[i]'(by omega) = r[j]'(by omega) := h
    rcases Nat.lt_trichotomy i j with hlt' | heq | hgt
    · exact absurd h' (List.pairwise_iff_getElem.1 hd i j (by omega) (by omega) hlt')
    · exact heq
    · exact absurd h'.symm (List.pairwise_iff_getElem.1 hd j i (by omega) (by omega) hgt)
  · have := (low i hi).2; rw [h, high j hj] at this; omega
  · have := (low j hj).2; rw [← h, high i hi] at this; omega
  · rw [high i hi, high j hj] at h; omega
theorem CallOk.inst {P : Program} {f : FuncId} {args0 args : List RV} {hp0 hp : Hp} {nx0 nx : Nat} {out0 : Out} {r : List Nat} (h : CallOk P f args0 hp0 nx0 out0) (hn0 : namesB ⟨args0, hp0, nx0, []⟩ = true) (hout : outB nx0 out0 = true)
    (hr : r.length = nx0) (hd : r.Nodup) (hlt : ∀ i ∈ r, i < nx) (hargs : args.map RV.unk = (args0.map (RV.inst (instId r nx0 nx))).map RV.unk)
    (hhp : ∀ id o0, hlook hp0 id = some o0 → ∃ o, hlook hp (instId r nx0 nx id) = some o ∧ o.unk = (o0.inst (instId r nx0 nx)).unk) :
    CallOk P f args hp nx (out0.inst (instId r nx0 nx) (nx + (out0.nx - nx0))) := by
  have hinj := instId_inj hr hd hlt
  have hN := namesB_spec hn0
  simp only [outB, Bool.and_eq_true, List.all_eq_true] at hout
  obtain ⟨⟨⟨o1, o2⟩, o3⟩, o4⟩ := hout
  have o1 := Nat.le_of_ble_eq_true o1
  have glow : ∀ id, id < nx0 → instId r nx0 nx id < nx := by
    intro i hi
    have h1 : instId r nx0 nx i = r.getD i 0 := by unfold instId; rw [show Nat.blt i nx0 = true from Nat.ble_eq_true_of_le hi]; rfl
    rw [h1, List.getD_eq_getElem?_getD, List.getElem?_eq_getElem (by omega)]
    exact hlt _ (List.getElem_mem _)
  have ghigh : ∀ id, ¬ id < nx0 → instId r nx0 nx id = id - nx0 + nx := by
    intro i hi
    unfold instId
    cases hb : Nat.blt i nx0 with
    | true => exact absurd (blt_spec hb) hi
    | false => rfl
  generalize instId r nx0 nx = g at *
  intro e w hs
  let e0 : Env := ⟨fun id => e.ρ (g id), fun id => e.σ (g id), fun id => e.φ (g id)⟩
  have hs0 : ∀ id, SameAt g e e0 id := fun id => ⟨rfl, rfl, rfl⟩
  have conv : ∀ (id : Nat) (o0 o : HO), o.unk = (o0.inst g).unk → (o.holds e w (g id) ↔ o0.holds e0 w id) ∧ (∀ b, o.owns e (g id) b ↔ o0.owns e0 id b) ∧ ∀ b, o.foot e (g id) b ↔ o0.foot e0 id b := by
    intro id o0 o hu
    have k1 := unk_holds_of (e := e) (w := w) (id := g id) hu.symm
    have k2 := HO.inst_holds (w := w) (hs0 id) (o := o0) fun i _ => hs0 i
    exact ⟨k1.1.trans k2.1, fun b => (k1.2.1 b).trans (k2.2.1 b), fun b => (k1.2.2 b).trans (k2.2.2 b)⟩
  have hsat0 : Sat e0 (hlook hp0) w := by
    refine ⟨fun id o0 ho => ?_, fun id o0 ho id' o0' ho' hne b hb hf => ?_⟩
    · obtain ⟨o, h1, h2⟩ := hhp id o0 ho
      exact (conv id o0 o h2).1.1 (hs.holds _ _ h1)
    · obtain ⟨o, h1, h2⟩ := hhp id o0 ho
      obtain ⟨o', h3, h4⟩ := hhp id' o0' ho'
      exact hs.apart _ o h1 _ o' h3 (fun h => hne (hinj _ _ h)) b (((conv id o0 o h2).2.1 b).2 hb) (((conv id' o0' o' h4).2.2 b).2 hf)
  have hden : args.map (RV.den e) = args0.map (RV.den e0) := by
    have h1 : args.map (RV.den e) = (args.map RV.unk).map (RV.den e) := by
      rw [List.map_map]; exact List.map_congr_left fun r _ => (RV.unk_den e r).symm
    have h2 : args0.map (RV.den e0) = ((args0.map (RV.inst g)).map RV.unk).map (RV.den e) := by
      rw [List.map_map, List.map_map]
      exact List.map_congr_left fun r _ => by
        simp only [Function.comp]
        rw [RV.unk_den]
        exact (RV.inst_den (g := g) (e := e) (e0 := e0) fun id _ => ⟨rfl, rfl⟩).symm
    rw [h1, hargs, h2]
  rw [hden]
  refine (h e0 w hsat0).mono fun en w' ⟨e0', hen, hp'⟩ => ?_
  let m := nx + (out0.nx - nx0)
  let e' : Env := ⟨fun id => if id < nx then e.ρ id else if id < m then e0'.ρ (id - nx + nx0) else e.ρ id, fun id => if id < nx then e.σ id else if id < m then e0'.σ (id - nx + nx0) else e.σ id,
    fun id => if id < nx then e.φ id else if id < m then e0'.φ (id - nx + nx0) else e.φ id⟩
  have hs1 : ∀ id, id < out0.nx → SameAt g e' e0' id := by
    intro id hid
    by_cases hl : id < nx0
    · have hg := glow id hl
      have ha := hp'.agree id (.inl hl)
      exact ⟨by simp only [e', hg, if_true]; exact ha.1.symm, by simp only [e', hg, if_true]; exact ha.2.1.symm, by simp only [e', hg, if_true]; exact ha.2.2.symm⟩
    · have hg := ghigh id hl
      have h1 : ¬ g id < nx := by omega
      have h2 : g id < m := by simp only [m]; omega
      have h3 : g id - nx + nx0 = id := by omega
      exact ⟨by simp only [e', h1, h2, if_false, if_true, h3], by simp only [e', h1, h2, if_false, if_true, h3], by simp only [e', h1, h2, if_false, if_true, h3]⟩
  have upok : ∀ id o0, hlook out0.up id = some o0 → id < out0.nx ∧ ∀ i ∈ o0.ids, i < out0.nx := fun id o0 ho => ⟨blt_spec (o3 _ (hlook_mem ho)).1, fun i hi => blt_spec ((o3 _ (hlook_mem ho)).2 i hi)⟩
  have conv' : ∀ id o0, hlook out0.up id = some o0 → ((o0.inst g).holds e' w' (g id) ↔ o0.holds e0' w' id) ∧ (∀ b, (o0.inst g).owns e' (g id) b ↔ o0.owns e0' id b) ∧ ∀ b, (o0.inst g).foot e' (g id) b ↔ o0.foot e0' id b :=
    fun id o0 ho => HO.inst_holds (hs1 id (upok id o0 ho).1) fun i hi => hs1 i ((upok id o0 ho).2 i hi)
  have wr : ∀ b, (∃ id0 ∈ out0.W, ∃ o0, hlook hp0 id0 = some o0 ∧ o0.owns e0 id0 b) → ∃ id0 ∈ out0.W.map g, ∃ o, hlook hp id0 = some o ∧ o.owns e id0 b := by
    rintro b ⟨id0, k1, o0, k2, k3⟩
    obtain ⟨o, k4, k5⟩ := hhp id0 o0 k2
    exact ⟨g id0, List.mem_map.2 ⟨id0, k1, rfl⟩, o, k4, ((conv id0 o0 o k5).2.1 b).2 k3⟩
  refine ⟨e', ?_, ⟨fun id hid => ?_, hp'.os, hp'.tape, hp'.output, hp'.size, fun k hk hne => hp'.fr k hk fun id hid o0 ho hb => ?_, ⟨fun id o ho => ?_, fun id o ho id' o' ho' hne b hb hf => ?_⟩, fun id o b ho hb => ?_, fun id o b ho hb => ?_⟩⟩
  · rw [hen]
    simp only [Out.inst]
    rw [RV.inst_den fun id hid => ⟨(hs1 id (blt_spec (o2 id hid))).ρ, (hs1 id (blt_spec (o2 id hid))).σ⟩]
  · simp only [Out.inst] at hid
    rcases hid with hid | hid
    · exact ⟨by simp only [e', hid, if_true], by simp only [e', hid, if_true], by simp only [e', hid, if_true]⟩
    · have h1 : ¬ id < nx := by omega
      have h2 : ¬ id < m := by simp only [m]; omega
      exact ⟨by simp only [e', h1, h2, if_false], by simp only [e', h1, h2, if_false], by simp only [e', h1, h2, if_false]⟩
  · obtain ⟨o, k4, k5⟩ := hhp id o0 ho
    exact hne (g id) (List.mem_map.2 ⟨id, hid, rfl⟩) o k4 (((conv id o0 o k5).2.1 k).2 hb)
  · obtain ⟨i, o0, rfl, h2, rfl⟩ := hlook_inst_of hinj ho
    exact (conv' i o0 h2).1.2 (hp'.sat.holds i o0 h2)
  · obtain ⟨i, o0, rfl, h2, rfl⟩ := hlook_inst_of hinj ho
    obtain ⟨j, o0', rfl, h4, rfl⟩ := hlook_inst_of hinj ho'
    exact hp'.sat.apart i o0 h2 j o0' h4 (fun h => hne (by rw [h])) b (((conv' i o0 h2).2.1 b).1 hb) (((conv' j o0' h4).2.2 b).1 hf)
  · obtain ⟨i, o0, rfl, h2, rfl⟩ := hlook_inst_of hinj ho
    exact (hp'.own i o0 b h2 (((conv' i o0 h2).2.1 b).1 hb)).imp (fun h => h) (wr b)
  · obtain ⟨i, o0, rfl, h2, rfl⟩ := hlook_inst_of hinj ho
    rcases hp'.foot i o0 b h2 (((conv' i o0 h2).2.2 b).1 hb) with k | k | ⟨id0, o1, k1, k2, k3⟩
    · exact .inl k
    · exact .inr (.inl (wr b k))
    · obtain ⟨o, k4, k5⟩ := hhp id0 o1 k1
      exact .inr (.inr ⟨g id0, o, k4, ((conv id0 o1 o k5).2.2 b).2 k2, fun h => k3 (((conv id0 o1 o k5).2.1 b).1 h)⟩)
def HO.isGrid : HO → Bool
  | .grid _ _ => true
  | _ => false
theorem CallOk.instG {P : Program} {f : FuncId} {args0 args : List RV} {hp0 hp : Hp} {nx0 nx : Nat} {out0 : Out} {r : List Nat} (h : CallOk P f args0 hp0 nx0 out0) (hn0 : namesB ⟨args0, hp0, nx0, []⟩ = true) (hout : outB nx0 out0 = true)
    (hr : r.length = nx0) (hG : hp0.all (fun p => p.2.isGrid) = true) (hU : out0.up.all (fun p => Nat.ble nx0 p.1) = true) (hlt : ∀ i ∈ r, i < nx) (hargs : args.map RV.unk = (args0.map (RV.inst (instId r nx0 nx))).map RV.unk)
    (hhp : ∀ id o0, hlook hp0 id = some o0 → ∃ o, hlook hp (instId r nx0 nx id) = some o ∧ o.unk = (o0.inst (instId r nx0 nx)).unk) :
    CallOk P f args hp nx (out0.inst (instId r nx0 nx) (nx + (out0.nx - nx0))) := by
  have hN := namesB_spec hn0
  simp only [outB, Bool.and_eq_true, List.all_eq_true] at hout
  obtain ⟨⟨⟨o1, o2⟩, o3⟩, o4⟩ := hout
  have o1 := Nat.le_of_ble_eq_true o1
  have glow : ∀ id, id < nx0 → instId r nx0 nx id < nx := by
    intro i hi
    have h1 : instId r nx0 nx i = r.getD i 0 := by unfold instId; rw [show Nat.blt i nx0 = true from Nat.ble_eq_true_of_le hi]; rfl
    rw [h1, List.getD_eq_getElem?_getD, List.getElem?_eq_getElem (by omega)]
    exact hlt _ (List.getElem_mem _)
  have ghigh : ∀ id, ¬ id < nx0 → instId r nx0 nx id = id - nx0 + nx := by
    intro i hi
    unfold instId
    cases hb : Nat.blt i nx0 with
    | true => exact absurd (blt_spec hb) hi
    | false => rfl
  have hinj : ∀ i j, nx0 ≤ i → nx0 ≤ j → instId r nx0 nx i = instId r nx0 nx j → i = j := by
    intro i j hi hj h
    rw [ghigh i (by omega), ghigh j (by omega)] at h; omega
  have hU' : ∀ p ∈ out0.up, nx0 ≤ p.1 := fun p hp => Nat.le_of_ble_eq_true (List.all_eq_true.1 hU p hp)
  generalize instId r nx0 nx = g at *
  intro e w hs
  let e0 : Env := ⟨fun id => e.ρ (g id), fun id => e.σ (g id), fun id => e.φ (g id)⟩
  have hs0 : ∀ id, SameAt g e e0 id := fun id => ⟨rfl, rfl, rfl⟩
  have conv : ∀ (id : Nat) (o0 o : HO), o.unk = (o0.inst g).unk → (o.holds e w (g id) ↔ o0.holds e0 w id) ∧ (∀ b, o.owns e (g id) b ↔ o0.owns e0 id b) ∧ ∀ b, o.foot e (g id) b ↔ o0.foot e0 id b := by
    intro id o0 o hu
    have k1 := unk_holds_of (e := e) (w := w) (id := g id) hu.symm
    have k2 := HO.inst_holds (w := w) (hs0 id) (o := o0) fun i _ => hs0 i
    exact ⟨k1.1.trans k2.1, fun b => (k1.2.1 b).trans (k2.2.1 b), fun b => (k1.2.2 b).trans (k2.2.2 b)⟩
  have hsat0 : Sat e0 (hlook hp0) w := by
    refine ⟨fun id o0 ho => ?_, fun id o0 ho id' o0' ho' hne b hb hf => ?_⟩
    · obtain ⟨o, h1, h2⟩ := hhp id o0 ho
      exact (conv id o0 o h2).1.1 (hs.holds _ _ h1)
    · have := List.all_eq_true.1 hG _ (hlook_mem ho)
      cases o0 with
      | grid _ _ => exact hb
      | _ => cases this
  have hden : args.map (RV.den e) = args0.map (RV.den e0) := by
    have h1 : args.map (RV.den e) = (args.map RV.unk).map (RV.den e) := by
      rw [List.map_map]; exact List.map_congr_left fun r _ => (RV.unk_den e r).symm
    have h2 : args0.map (RV.den e0) = ((args0.map (RV.inst g)).map RV.unk).map (RV.den e) := by
      rw [List.map_map, List.map_map]
      exact List.map_congr_left fun r _ => by
        simp only [Function.comp]
        rw [RV.unk_den]
        exact (RV.inst_den (g := g) (e := e) (e0 := e0) fun id _ => ⟨rfl, rfl⟩).symm
    rw [h1, hargs, h2]
  rw [hden]
  refine (h e0 w hsat0).mono fun en w' ⟨e0', hen, hp'⟩ => ?_
  let m := nx + (out0.nx - nx0)
  let e' : Env := ⟨fun id => if id < nx then e.ρ id else if id < m then e0'.ρ (id - nx + nx0) else e.ρ id, fun id => if id < nx then e.σ id else if id < m then e0'.σ (id - nx + nx0) else e.σ id,
    fun id => if id < nx then e.φ id else if id < m then e0'.φ (id - nx + nx0) else e.φ id⟩
  have hs1 : ∀ id, id < out0.nx → SameAt g e' e0' id := by
    intro id hid
    by_cases hl : id < nx0
    · have hg := glow id hl
      have ha := hp'.agree id (.inl hl)
      exact ⟨by simp only [e', hg, if_true]; exact ha.1.symm, by simp only [e', hg, if_true]; exact ha.2.1.symm, by simp only [e', hg, if_true]; exact ha.2.2.symm⟩
    · have hg := ghigh id hl
      have h1 : ¬ g id < nx := by omega
      have h2 : g id < m := by simp only [m]; omega
      have h3 : g id - nx + nx0 = id := by omega
      exact ⟨by simp only [e', h1, h2, if_false, if_true, h3], by simp only [e', h1, h2, if_false, if_true, h3], by simp only [e', h1, h2, if_false, if_true, h3]⟩
  have upok : ∀ id o0, hlook out0.up id = some o0 → id < out0.nx ∧ ∀ i ∈ o0.ids, i < out0.nx := fun id o0 ho => ⟨blt_spec (o3 _ (hlook_mem ho)).1, fun i hi => blt_spec ((o3 _ (hlook_mem ho)).2 i hi)⟩
  have conv' : ∀ id o0, hlook out0.up id = some o0 → ((o0.inst g).holds e' w' (g id) ↔ o0.holds e0' w' id) ∧ (∀ b, (o0.inst g).owns e' (g id) b ↔ o0.owns e0' id b) ∧ ∀ b, (o0.inst g).foot e' (g id) b ↔ o0.foot e0' id b :=
    fun id o0 ho => HO.inst_holds (hs1 id (upok id o0 ho).1) fun i hi => hs1 i ((upok id o0 ho).2 i hi)
  have wr : ∀ b, (∃ id0 ∈ out0.W, ∃ o0, hlook hp0 id0 = some o0 ∧ o0.owns e0 id0 b) → ∃ id0 ∈ out0.W.map g, ∃ o, hlook hp id0 = some o ∧ o.owns e id0 b := by
    rintro b ⟨id0, k1, o0, k2, k3⟩
    obtain ⟨o, k4, k5⟩ := hhp id0 o0 k2
    exact ⟨g id0, List.mem_map.2 ⟨id0, k1, rfl⟩, o, k4, ((conv id0 o0 o k5).2.1 b).2 k3⟩
  refine ⟨e', ?_, ⟨fun id hid => ?_, hp'.os, hp'.tape, hp'.output, hp'.size, fun k hk hne => hp'.fr k hk fun id hid o0 ho hb => ?_, ⟨fun id o ho => ?_, fun id o ho id' o' ho' hne b hb hf => ?_⟩, fun id o b ho hb => ?_, fun id o b ho hb => ?_⟩⟩
  · rw [hen]
    simp only [Out.inst]
    rw [RV.inst_den fun id hid => ⟨(hs1 id (blt_spec (o2 id hid))).ρ, (hs1 id (blt_spec (o2 id hid))).σ⟩]
  · simp only [Out.inst] at hid
    rcases hid with hid | hid
    · exact ⟨by simp only [e', hid, if_true], by simp only [e', hid, if_true], by simp only [e', hid, if_true]⟩
    · have h1 : ¬ id < nx := by omega
      have h2 : ¬ id < m := by simp only [m]; omega
      exact ⟨by simp only [e', h1, h2, if_false], by simp only [e', h1, h2, if_false], by simp only [e', h1, h2, if_false]⟩
  · obtain ⟨o, k4, k5⟩ := hhp id o0 ho
    exact hne (g id) (List.mem_map.2 ⟨id, hid, rfl⟩) o k4 (((conv id o0 o k5).2.1 k).2 hb)
  · obtain ⟨i, o0, rfl, h2, rfl⟩ := hlook_inst hinj hU' ho
    exact (conv' i o0 h2).1.2 (hp'.sat.holds i o0 h2)
  · obtain ⟨i, o0, rfl, h2, rfl⟩ := hlook_inst hinj hU' ho
    obtain ⟨j, o0', rfl, h4, rfl⟩ := hlook_inst hinj hU' ho'
    exact hp'.sat.apart i o0 h2 j o0' h4 (fun h => hne (by rw [h])) b (((conv' i o0 h2).2.1 b).1 hb) (((conv' j o0' h4).2.2 b).1 hf)
  · obtain ⟨i, o0, rfl, h2, rfl⟩ := hlook_inst hinj hU' ho
    exact (hp'.own i o0 b h2 (((conv' i o0 h2).2.1 b).1 hb)).imp (fun h => h) (wr b)
  · obtain ⟨i, o0, rfl, h2, rfl⟩ := hlook_inst hinj hU' ho
    rcases hp'.foot i o0 b h2 (((conv' i o0 h2).2.2 b).1 hb) with k | k | ⟨id0, o1, k1, k2, k3⟩
    · exact .inl k
    · exact .inr (.inl (wr b k))
    · obtain ⟨o, k4, k5⟩ := hhp id0 o1 k1
      exact .inr (.inr ⟨g id0, o, k4, ((conv id0 o1 o k5).2.2 b).2 k2, fun h => k3 (((conv id0 o1 o k5).2.1 b).1 h)⟩)
/-- What a function does, told under names of its own: x is what the matcher m finds in the arguments. -/
def conX (P : Program) {X : Type} (f : FuncId) (m : List RV → Hp → Option (X × List Nat)) (nx0 : Nat) (args0 : X → List RV) (hp0 : X → Hp) (pre : X → Option Bool) (out0 : X → Out)
    (hm : ∀ args hp x r, m args hp = some (x, r) → r.length = nx0 ∧ ∀ nx, args.map RV.unk = ((args0 x).map (RV.inst (instId r nx0 nx))).map RV.unk ∧ (∀ i ∈ r, ∃ a ∈ args, i ∈ a.ids ∨ ∃ j ∈ a.ids, ∃ o, hlook hp j = some o ∧ i ∈ o.ids) ∧
      ∀ id o0, hlook (hp0 x) id = some o0 → ∃ o, hlook hp (instId r nx0 nx id) = some o ∧ o.unk = (o0.inst (instId r nx0 nx)).unk)
    (ok : ∀ x, Must (pre x) → namesB ⟨args0 x, hp0 x, nx0, []⟩ = true ∧ outB nx0 (out0 x) = true ∧ CallOk P f (args0 x) (hp0 x) nx0 (out0 x)) : Con P where
  f := f
  g := fun args hp nx => match m args hp with
    | some (x, r) => bif distinct r || ((hp0 x).all (fun p => p.2.isGrid) && (out0 x).up.all (fun p => Nat.ble nx0 p.1)) then some (pre x, (out0 x).inst (instId r nx0 nx) (nx + ((out0 x).nx - nx0))) else none
    | none => none
  ok := by
    intro args hp nx p out hn h hp'
    split at h
    · rename_i x r hx
      cases hb : (distinct r || ((hp0 x).all (fun p => p.2.isGrid) && (out0 x).up.all (fun p => Nat.ble nx0 p.1))) with
      | false => rw [hb] at h; cases h
      | true =>
        rw [hb] at h
        simp only [cond_true, Option.some.injEq, Prod.mk.injEq] at h
        obtain ⟨rfl, rfl⟩ := h
        obtain ⟨k1, k2⟩ := hm args hp x r hx
        obtain ⟨k3, k4, k5⟩ := k2 nx
        obtain ⟨g1, g2, g3⟩ := ok x hp'
        have hlt : ∀ i ∈ r, i < nx := fun i hi => by
          obtain ⟨a, ha, h | ⟨j, hj, o, ho, h⟩⟩ := k4 i hi
          · exact hn.fr a ha i h
          · exact (hn.hp j o ho).2 i h
        rw [Bool.or_eq_true, Bool.and_eq_true] at hb
        rcases hb with hb | hb
        · exact g3.inst g1 g2 k1 (distinct_spec hb) hlt k3 k5
        · exact g3.instG g1 g2 k1 hb.1 hb.2 hlt k3 k5
    · cases h
end Go.Proofs.Ythgneojhhocflaa
