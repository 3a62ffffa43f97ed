/- A symbolic way through the code of a call: contracts whose answers are slices, for callers with slices of their own. No condition. -/
import Derived.Test.YthgneojhhocflaaEng14
set_option linter.unusedVariables false
namespace Go.Proofs.Ythgneojhhocflaa
open Go.RowKit

theorem SV.den_rs {e e' : Env} (s : SV) (h1 : e'.ρ = e.ρ) (h2 : e'.σ = e.σ) : s.den e' = s.den e := by
  cases s with
  | one c => exact c.den_rs h1 h2
  | agg cs => simp only [SV.den]; rw [List.map_congr_left fun c _ => c.den_rs h1 h2]
theorem RV.den_rs {e e' : Env} (r : RV) (h1 : e'.ρ = e.ρ) (h2 : e'.σ = e.σ) : r.den e' = r.den e := by
  cases r with
  | sv s => exact s.den_rs h1 h2
  | tup l => simp only [RV.den]; rw [List.map_congr_left fun s _ => s.den_rs h1 h2]
  | dead => rfl
theorem frz_foot {e : Env} {hp : Hp} : ∀ id o, hlook hp id = some o → ∀ b, (frz1 o).foot (e.frz (hlook hp)) id b → o.foot e id b := by
  intro id o ho b hb
  cases o with
  | cells cs t => exact hb
  | grid sh l =>
    have hb' : e.φ id b ∨ (isRow (hlook hp id) = true ∧ (e.slv id).ownBlock = some b) := hb
    rw [ho] at hb'
    rcases hb' with hb' | hb'
    · exact hb'
    · cases hb'.1
  | row sh t l =>
    have hb' : e.φ id b ∨ (isRow (hlook hp id) = true ∧ (e.slv id).ownBlock = some b) := hb
    rcases hb' with hb' | hb'
    · exact .inr hb'
    · exact .inl hb'.2
  | elem _ _ _ => exact hb
  | gone => exact hb
theorem frz_sat {e : Env} {hp : Hp} {w : World} (hs : Sat e (hlook hp) w) : Sat (e.frz (hlook hp)) (hlook (frz hp)) w := by
  have hden : ∀ c : CV, c.den (e.frz (hlook hp)) = c.den e := fun c => c.den_rs rfl rfl
  have hfoot := frz_foot (e := e) (hp := hp)
  refine ⟨fun id o ho => ?_, fun id o ho id' o' ho' hne b hb hf => ?_⟩
  · rw [hlook_frz] at ho
    obtain ⟨o1, ho1, rfl⟩ := Option.map_eq_some_iff.1 ho
    have hh := hs.holds id o1 ho1
    cases o1 with
    | cells cs t =>
      simp only [frz1, HO.holds] at hh ⊢
      rw [List.map_congr_left fun c _ => hden c]
      exact hh
    | grid sh l =>
      have hφ : (e.frz (hlook hp)).φ id = e.φ id := by
        funext b
        simp [Env.frz, ho1, isRow]
      simp only [frz1, HO.holds, hφ] at hh ⊢
      exact hh
    | row sh t l =>
      obtain ⟨d, hr⟩ := HO.rowsAt (p := (sh, l)) hh rfl
      have hsub : ∀ b, (HO.row sh t l).foot e id b → (e.frz (hlook hp)).φ id b := by
        intro b hb
        rcases hb with hb | hb
        · exact .inr ⟨by rw [ho1]; rfl, hb⟩
        · exact .inl hb
      refine ⟨⟨d, hr.mono (fun b hb => ⟨hsub b hb, rfl⟩) (fun s c u hc => hc.mono fun b hb => ⟨hsub b (.inr hb), rfl⟩)⟩, fun b hb => ?_⟩
      exact HO.foot_lt hh (hfoot id _ ho1 b hb)
    | elem id' i w' => exact hh
    | gone => trivial
  · rw [hlook_frz] at ho ho'
    obtain ⟨o1, ho1, rfl⟩ := Option.map_eq_some_iff.1 ho
    obtain ⟨o2, ho2, rfl⟩ := Option.map_eq_some_iff.1 ho'
    have hown : o1.owns e id b := by
      cases o1 with
      | cells cs t => exact hb
      | _ => exact False.elim hb
    exact hs.apart id o1 ho1 id' o2 ho2 hne b hown (hfoot id' o2 ho2 b hf)
theorem frz_owns {e : Env} {o : HO} {h : Nat → Option HO} {id b : Nat} (hb : (frz1 o).owns (e.frz h) id b) : o.owns e id b := by
  cases o with
  | cells cs t => exact hb
  | _ => exact False.elim hb
/-- What is answered is read alone from here on. -/
theorem CallOk.freezeOut {P : Program} {f : FuncId} {args : List RV} {hp : Hp} {nx : Nat} {out : Out} (h : CallOk P f args hp nx out) (hW : out.W = []) (hup : out.up.all (fun p => Nat.ble nx p.1 && Nat.blt p.1 out.nx) = true) :
    CallOk P f args hp nx ⟨out.v, frz out.up, out.nx, []⟩ := by
  intro e w hs
  refine (h e w hs).mono fun en w' ⟨e', hen, hp'⟩ => ⟨e'.frz (hlook out.up), ?_, ?_⟩
  · rw [hen]; exact congrArg Ending.returned (RV.den_rs out.v (e := e') (e' := e'.frz (hlook out.up)) rfl rfl).symm
  · have hno : ∀ id, id < nx ∨ out.nx ≤ id → hlook out.up id = none := by
      intro id hid
      cases ho : hlook out.up id with
      | none => rfl
      | some o =>
        have := List.all_eq_true.1 hup _ (hlook_mem ho)
        simp only [Bool.and_eq_true] at this
        have h1 := Nat.le_of_ble_eq_true this.1
        have h2 : id + 1 ≤ out.nx := Nat.le_of_ble_eq_true this.2
        omega
    refine ⟨fun id hid => ?_, hp'.os, hp'.tape, hp'.output, hp'.size, fun k hk _ => hp'.fr k hk (fun id hid => by rw [hW] at hid; cases hid), frz_sat hp'.sat, fun id o b ho hb => ?_, fun id o b ho hb => ?_⟩
    · have hsame := hp'.agree id hid
      refine ⟨hsame.1, hsame.2.1, ?_⟩
      rw [← hsame.2.2]
      funext b
      simp [Env.frz, hno id hid, isRow]
    · simp only [hlook_frz] at ho
      obtain ⟨o1, ho1, rfl⟩ := Option.map_eq_some_iff.1 ho
      rcases hp'.own id o1 b ho1 (frz_owns hb) with h | ⟨id0, h0, _⟩
      · exact .inl h
      · rw [hW] at h0; cases h0
    · simp only [hlook_frz] at ho
      obtain ⟨o1, ho1, rfl⟩ := Option.map_eq_some_iff.1 ho
      rcases hp'.foot id o1 b ho1 (frz_foot _ _ ho1 b hb) with h | ⟨id0, h0, _⟩ | h
      · exact .inl h
      · rw [hW] at h0; cases h0
      · exact .inr (.inr h)
def Sh.flat : Sh → Bool
  | .sl _ => false
  | _ => true
theorem CtHolds.flat {w : World} {φ φ' : Nat → Prop} {d : Nat} {s : Sh} {c : Ct} {v : Value} (hs : s.flat = true) (h : CtHolds w φ d s c v) : CtHolds w φ' d s c v := by
  cases s with
  | sl e => cases hs
  | _ => cases d <;> exact h
/-- A slice of one's own of flat rows, or cells. -/
def HO.flatR : HO → Bool
  | .row sh _ _ => sh.all Sh.flat
  | .grid _ _ => false
  | _ => true
def Env.clr (e e' : Env) (n0 n1 : Nat) : Env := ⟨e'.ρ, e'.σ, fun id => if n0 ≤ id ∧ id < n1 then fun _ => False else e.φ id⟩
theorem CallOk.freezeR {P : Program} {f : FuncId} {args : List RV} {hp : Hp} {nx : Nat} {out : Out} (h : CallOk P f args (frz hp) nx out) (hW : out.W = []) (hup : out.up.all (fun p => Nat.ble nx p.1 && Nat.blt p.1 out.nx && p.2.flatR) = true) : CallOk P f args hp nx out := by
  intro e w hs
  have hk := h (e.frz (hlook hp)) w (frz_sat hs)
  rw [show args.map (RV.den (e.frz (hlook hp))) = args.map (RV.den e) from List.map_congr_left fun r _ => r.den_rs rfl rfl] at hk
  refine hk.mono fun en w' ⟨e', hen, hp'⟩ => ⟨e.clr e' nx out.nx, ?_, ?_⟩
  · rw [hen]; exact congrArg Ending.returned (RV.den_rs out.v (e := e') (e' := e.clr e' nx out.nx) rfl rfl).symm
  · have hin : ∀ id o, hlook out.up id = some o → (nx ≤ id ∧ id < out.nx) ∧ o.flatR = true := by
      intro id o ho
      have := List.all_eq_true.1 hup _ (hlook_mem ho)
      simp only [Bool.and_eq_true] at this
      exact ⟨⟨Nat.le_of_ble_eq_true this.1.1, Nat.le_of_ble_eq_true this.1.2⟩, this.2⟩
    have hown : ∀ id o b, hlook out.up id = some o → o.owns (e.clr e' nx out.nx) id b → o.owns e' id b := by
      intro id o b ho hb
      cases o with
      | cells _ _ => exact hb
      | row _ _ _ => exact hb
      | _ => exact False.elim hb
    have hfoot : ∀ id o b, hlook out.up id = some o → o.foot (e.clr e' nx out.nx) id b → o.owns e' id b := by
      intro id o b ho hb
      obtain ⟨hi, hfl⟩ := hin id o ho
      cases o with
      | cells _ _ => exact hb
      | row sh t l =>
        rcases hb with hb | hb
        · exact hb
        · simp [Env.clr, hi] at hb
      | grid _ _ => cases hfl
      | elem _ _ _ => exact False.elim hb
      | gone => exact False.elim hb
    have fresh : ∀ id o b, hlook out.up id = some o → o.owns e' id b → w.heap.size ≤ b := by
      intro id o b ho hb
      rcases hp'.own id o b ho hb with h | ⟨id0, h0, _⟩
      · exact h
      · rw [hW] at h0; cases h0
    refine ⟨fun id hid => ?_, hp'.os, hp'.tape, hp'.output, hp'.size, fun k hk _ => hp'.fr k hk (fun id hid => by rw [hW] at hid; cases hid), ⟨fun id o ho => ?_, fun id o ho id' o' ho' hne b hb hf => ?_⟩, fun id o b ho hb => .inl (fresh id o b ho (hown id o b ho hb)), fun id o b ho hb => .inl (fresh id o b ho (hfoot id o b ho hb))⟩
    · have hsame := hp'.agree id hid
      refine ⟨hsame.1, hsame.2.1, ?_⟩
      simp only [Env.clr]
      rw [if_neg (by omega)]
    · obtain ⟨hi, hfl⟩ := hin id o ho
      have hh := hp'.sat.holds id o ho
      cases o with
      | cells cs t =>
        simp only [HO.holds] at hh ⊢
        rw [List.map_congr_left fun c _ => CV.den_rs c (e := e') (e' := e.clr e' nx out.nx) rfl rfl]
        exact hh
      | row sh t l =>
        obtain ⟨⟨d, xs, ho1, hc⟩, hb⟩ := hh
        refine ⟨⟨d, xs, ho1, fun i hi' j s hs' => ?_⟩, fun b hb' => ?_⟩
        · obtain ⟨u, hu, hct⟩ := hc i hi' j s hs'
          exact ⟨u, hu, hct.flat (List.all_eq_true.1 hfl s (List.mem_of_getElem? hs'))⟩
        · simp [Env.clr, hi] at hb'
      | grid _ _ => cases hfl
      | elem id' i w' => exact hh
      | gone => trivial
    · exact hp'.sat.apart id o ho id' o' ho' hne b (hown id o b ho hb) (HO.owns_foot (hfoot id' o' b ho' hf))
def Con.freezeR {P : Program} (c : Con P) : Con P where
  f := c.f
  g := fun args hp nx => match c.g args (frz hp) nx with
    | some (p, out) => bif out.W.isEmpty && out.up.all (fun p => Nat.ble nx p.1 && Nat.blt p.1 out.nx && p.2.flatR) then some (p, out) else none
    | none => none
  ok := by
    intro args hp nx p out hn h hm
    split at h
    · rename_i p' out' ho
      cases hb : (out'.W.isEmpty && out'.up.all (fun p => Nat.ble nx p.1 && Nat.blt p.1 out'.nx && p.2.flatR)) with
      | false => rw [hb] at h; cases h
      | true =>
        rw [hb] at h
        simp only [cond_true, Option.some.injEq, Prod.mk.injEq] at h
        obtain ⟨rfl, rfl⟩ := h
        rw [Bool.and_eq_true, List.isEmpty_iff] at hb
        refine (c.ok args (frz hp) nx _ _ ⟨hn.fr, fun id o ho => ?_⟩ ho hm).freezeR hb.1 hb.2
        rw [hlook_frz] at ho
        obtain ⟨o1, ho1, rfl⟩ := Option.map_eq_some_iff.1 ho
        refine ⟨(hn.hp id o1 ho1).1, fun i hi => (hn.hp id o1 ho1).2 i ?_⟩
        cases o1 <;> first | exact hi | exact absurd hi (by simp [frz1, HO.ids])
    · cases h
def Con.freezeO {P : Program} (c : Con P) : Con P where
  f := c.f
  g := fun args hp nx => match c.g args hp nx with
    | some (p, out) => bif out.W.isEmpty && out.up.all (fun p => Nat.ble nx p.1 && Nat.blt p.1 out.nx) then some (p, ⟨out.v, frz out.up, out.nx, []⟩) else none
    | none => none
  ok := by
    intro args hp nx p out hn h hm
    split at h
    · rename_i p' out' ho
      cases hb : (out'.W.isEmpty && out'.up.all (fun p => Nat.ble nx p.1 && Nat.blt p.1 out'.nx)) with
      | false => rw [hb] at h; cases h
      | true =>
        rw [hb] at h
        simp only [cond_true, Option.some.injEq, Prod.mk.injEq] at h
        obtain ⟨rfl, rfl⟩ := h
        rw [Bool.and_eq_true, List.isEmpty_iff] at hb
        exact (c.ok args hp nx _ _ hn ho hm).freezeOut hb.1 hb.2
    · cases h
end Go.Proofs.Ythgneojhhocflaa
