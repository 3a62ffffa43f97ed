/- A symbolic way through the code of a call: calls as a whole. No condition. -/
import Derived.Test.YthgneojhhocflaaEngJ
set_option linter.unusedVariables false
namespace Go.Proofs.Ythgneojhhocflaa
open Go.RowKit

theorem Stands.tmp {n0 base : Nat} {H0 : Nat → Option HO} {st : St} {e : Env} {a : Act} {w : World} (h : Stands n0 base H0 st e a w) (t : Nat) (hd : (st.fr.getD t RV.und).isDead = false) : a.tmps.getD t undef = (st.fr.getD t RV.und).den e :=
  h.eval (.tmp t) hd
def resSem (tmps : Array Value) (r : ResultVar) : Sem Value :=
  match r with
  | .tmp t => pure (tmps.getD t undef)
  | .cell b t => do loadVar t (← asAddr (tmps.getD b undef))
theorem resOne_ok {P : Program} {n0 base : Nat} {H0 : Nat → Option HO} {st : St} {e : Env} {a : Act} {w : World} (h : Stands n0 base H0 st e a w) {r : ResultVar} {s : SV} (hr : resOne P st.fr st.hp r = some s) :
    (resSem a.tmps r).run P w = .ok (s.den e) w := by
  unfold resSem
  cases r with
  | tmp t =>
    simp only [resOne] at hr
    split at hr
    · rename_i s' hs'
      cases hr
      simp only [h.tmp t (by rw [hs']; rfl), hs', Sem.run_pure]; rfl
    · cases hr
  | cell b t =>
    simp only [resOne] at hr
    split at hr
    · rename_i id off hs'
      split at hr
      · rename_i cs ty hl
        have := ldCells_load hr (holds_cells_cell (h.sat.holds _ _ hl))
        rw [Nat.zero_add] at this
        simp only [h.tmp b (by rw [hs']; rfl), hs', RV.den, SV.den, CV.den, asAddr, Sem.run_bind, Sem.run_pure, Result.andThen_ok]
        exact this
      · cases hr
    · cases hr
theorem resAll_ok {P : Program} {n0 base : Nat} {H0 : Nat → Option HO} {st : St} {e : Env} {a : Act} {w : World} (h : Stands n0 base H0 st e a w) : ∀ (l : List ResultVar) (svs : List SV), resAll P st.fr st.hp l = some svs →
    (l.mapM (resSem a.tmps)).run P w = .ok (svs.map (SV.den e)) w := by
  intro l
  induction l with
  | nil => intro svs hr; simp only [resAll, Option.some.injEq] at hr; subst hr; simp
  | cons r l ih =>
    intro svs hr
    simp only [resAll] at hr
    split at hr
    · rename_i s l' hs hl
      cases hr
      rw [List.mapM_cons]
      simp only [Sem.run_bind]
      rw [resOne_ok h hs]
      simp only [Result.andThen_ok, ih _ hl, Sem.run_pure, List.map_cons]
    · cases hr
theorem results_ok {P : Program} {fn : Func} {n0 base : Nat} {H0 : Nat → Option HO} {st : St} {e : Env} {a : Act} {w : World} (h : Stands n0 base H0 st e a w) {l : List SV} (hr : resAll P st.fr st.hp fn.results.toList = some l) :
    (results fn a.tmps).run P w = .ok ((oneOrTup l).den e) w := by
  have key := resAll_ok h _ _ hr
  have e1 : results fn a.tmps = (do
    let vs ← fn.results.mapM (resSem a.tmps)
    pure (if h : vs.size = 1 then vs[0] else .tuple vs)) := rfl
  rw [e1, Array.mapM_eq_mapM_toList]
  simp only [Sem.run_bind, Sem.run_map, key, Result.andThen_ok, Sem.run_pure]
  congr 1
  match l with
  | [] => rfl
  | [s] => rfl
  | s :: s' :: l => rfl
theorem evRes_ok {P : Program} {fn : Func} {s : St} {nx : Nat} {K : Out → Prop} (h : evRes algP P fn s nx K) : ∃ out, K out ∧ (∀ i ∈ out.W, i ∈ s.W ∧ i < nx) ∧ (∀ i ∈ s.W, i < nx → i ∈ out.W) ∧ out.nx = s.nx ∧ (∀ id o, hlook out.up id = some o → hlook s.hp id = some o ∧ (id < nx → id ∈ out.W)) ∧
    ∃ l, resAll P s.fr s.hp fn.results.toList = some l ∧ out.v = oneOrTup l := by
  unfold evRes at h
  split at h
  · rename_i l hl
    refine ⟨_, h, fun i hi => ?_, fun i hi hlt => ?_, rfl, fun id o ho => ⟨(hlook_restrict ho).2, fun hlt => ?_⟩, l, hl, rfl⟩
    · have := List.mem_filter.1 hi
      exact ⟨this.1, blt_spec this.2⟩
    · exact List.mem_filter.2 ⟨hi, Nat.ble_eq_true_of_le hlt⟩
    · have h1 := (List.mem_filter.1 (hlook_restrict ho).1).2
      simp only [Bool.or_eq_true] at h1
      rcases h1 with h1 | h1
      · have := Nat.le_of_ble_eq_true h1; omega
      · obtain ⟨q, hq, hbq⟩ := List.any_eq_true.1 h1; rw [Nat.eq_of_beq_eq_true hbq]; exact hq
  · exact False.elim h
theorem names_pad {args : List RV} {hp : Hp} {nx n : Nat} (h : Names args hp nx) : Names (args ++ List.replicate n RV.und) hp nx := by
  refine ⟨fun r hr i hi => ?_, h.hp⟩
  rcases List.mem_append.1 hr with hr | hr
  · exact h.fr r hr i hi
  · rw [(List.mem_replicate.1 hr).2] at hi
    simp [RV.und, RV.ids, SV.ids, CV.ids] at hi
theorem callOk_of_to {P : Program} {f : FuncId} {fn : Func} {c : Code} {args : List RV} {hp : Hp} {nx : Nat} {out : Out} (hf : P.funcs[f]? = some fn) (hb : fn.body = some c) (hnm : Names args hp nx)
    (h : CodeTo P nx c (startSt fn args hp nx) fun ex s => (ex = .normal ∨ ex = .ret) ∧ (∀ i ∈ s.W, i < nx → i ∈ out.W) ∧ out.nx = s.nx ∧ (∀ id o, hlook out.up id = some o → hlook s.hp id = some o ∧ (id < nx → id ∈ out.W)) ∧
      ∃ l, resAll P s.fr s.hp fn.results.toList = some l ∧ out.v = oneOrTup l) : CallOk P f args hp nx out := by
  intro e w hsat
  refine calls_of_wp hf hb ?_
  have hmem : ∀ r ∈ args ++ List.replicate (fn.ntmps - args.length) RV.und, ∀ i ∈ r.ids, i < nx := (names_pad hnm).fr
  refine h (names_pad hnm) (Nat.le_refl _) w.heap.size (hlook hp) e _ w (Nat.le_refl _) ⟨?_, fun s r hr => ?_, rfl, hsat, fun id o b ho hi _ => ?_, fun id o b ho hi _ => ?_, fun id o ho _ => ⟨o, ho, .refl o⟩⟩ _ fun ex s e' a' w' hR hn' hnx hW hm hs' => ?_
  · simp [startSt]
  · right
    simp only [startSt] at hr
    rw [List.getElem?_append] at hr
    simp only [Array.getElem?_append, List.size_toArray, List.length_map]
    by_cases hlt : s < args.length
    · rw [if_pos hlt] at hr ⊢
      simp [hr]
    · rw [if_neg hlt] at hr ⊢
      rw [List.getElem?_replicate] at hr
      split at hr
      · rename_i h1
        cases hr
        simp [h1, RV.und, RV.den, SV.den, CV.den]
      · cases hr
  · have := (hnm.hp id o ho).1; omega
  · have := (hnm.hp id o ho).1; omega
  · obtain ⟨hex, h1, h2, h3, l, h4, h5⟩ := hR
    have hlow : ∀ id, id < nx → e'.same e id := fun id hid => (hm.agree id (.inl hid)).symm
    have hwr : ∀ b, WroteW s.W (hlook hp) nx e' b → ∃ id0 ∈ out.W, ∃ o0, hlook hp id0 = some o0 ∧ o0.owns e id0 b := by
      rintro b ⟨id0, g1, g2, o0, g3, g4⟩
      exact ⟨id0, h1 id0 g1 g2, o0, g3, (HO.owns_same (hlow id0 g2)).2 g4⟩
    have hpost : ∃ e'', Ending.returned ((oneOrTup l).den e') = Ending.returned (out.v.den e'') ∧ PostOp e e'' (hlook hp) nx out w w' := by
      refine ⟨e', by rw [h5], ⟨fun id hid => hm.agree id (by rw [← h2]; exact hid), hm.os, hm.tape, hm.output, hm.size, fun k hk hne => hm.fr k hk ?_, hs'.sat.sub fun id o ho => (h3 id o ho).1, fun id o b ho hf' => ?_, fun id o b ho hf' => ?_⟩⟩
      · rintro ⟨id0, g1, g2, o0, g3, g4⟩
        exact hne id0 (h1 id0 g1 g2) o0 g3 g4
      · by_cases hid : id < nx
        · obtain ⟨o9, h6, hk⟩ := hs'.old id o (h3 _ _ ho).1 hid
          exact .inr ⟨id, (h3 _ _ ho).2 hid, o9, h6, (HO.owns_same (hlow id hid)).2 (hk.owns hf')⟩
        · exact (hs'.own id o b (h3 _ _ ho).1 (by omega) hf').imp (fun h => h) (hwr b)
      · by_cases hid : id < nx
        · obtain ⟨o9, h6, hk⟩ := hs'.old id o (h3 _ _ ho).1 hid
          have h7 := hk e' id b hf'
          by_cases h8 : o9.owns e' id b
          · exact .inr (.inl ⟨id, (h3 _ _ ho).2 hid, o9, h6, (HO.owns_same (hlow id hid)).2 h8⟩)
          · exact .inr (.inr ⟨id, o9, h6, (HO.foot_same (hlow id hid)).2 h7.1, fun h => h8 ((HO.owns_same (hlow id hid)).1 h)⟩)
        · rcases hs'.foot id o b (h3 _ _ ho).1 (by omega) hf' with h6 | h6 | ⟨id0, o0, g1, g2, g3, g4⟩
          · exact .inl h6
          · exact .inr (.inl (hwr b h6))
          · exact .inr (.inr ⟨id0, o0, g2, (HO.foot_same (hlow id0 g1)).2 g3, fun h => g4 ((HO.owns_same (hlow id0 g1)).1 h)⟩)
    rcases hex with rfl | rfl
    · exact ⟨hs'.defers, _, results_ok hs' h4, hpost⟩
    · exact ⟨hs'.defers, _, results_ok hs' h4, hpost⟩
theorem findCon_spec {P : Program} : ∀ (l : List (Con P)) (f : FuncId) (c : Con P), findCon l f = some c → c.f = f := by
  intro l
  induction l with
  | nil => intro f c h; cases h
  | cons x l ih =>
    intro f c h
    simp only [findCon] at h
    cases hb : Nat.beq x.f f with
    | true => rw [hb] at h; cases h; exact Nat.eq_of_beq_eq_true hb
    | false => rw [hb] at h; exact ih f c h
theorem evBody_ok {P : Program} {C : Cfg P} (hf : FactsOk C.facts) {call : CallF Prop} (hcall : CallsOk P call) {callJ : CallF JR} (hcj : ∀ p, GSim (JR.is p) callJ call) {f : FuncId} {args : List RV} {hp : Hp} {nx : Nat} {K : Out → Prop} (hnm : Names args hp nx) (h : evBody algP C call callJ f args hp nx K) : ∃ out, CallOk P f args hp nx out ∧ K out := by
  unfold evBody at h
  split at h
  · rename_i fn hfn
    split at h
    · rename_i c hb
      obtain ⟨ex, s, h1, _, h2⟩ := evCode_ok hf hcall (jnN_ok hf hcall hcj _) c _ _ (names_pad hnm) h
      have fin : evRes algP P fn s nx K → (ex = .normal ∨ ex = .ret) → ∃ out, CallOk P f args hp nx out ∧ K out := by
        intro h2 hex
        obtain ⟨out, k1, k2, k3, k4, k5, l, k6, k7⟩ := evRes_ok h2
        exact ⟨out, callOk_of_to hfn hb hnm (h1.mono fun ex' s' hh => by
          obtain ⟨rfl, rfl⟩ := hh
          exact ⟨hex, k3, k4, k5, l, k6, k7⟩), k1⟩
      cases ex with
      | normal => exact fin h2 (.inl rfl)
      | exit i => exact False.elim h2
      | ret => exact fin h2 (.inr rfl)
    · exact False.elim h
  · exact False.elim h
theorem evCallJ_eq {P : Program} {C : Cfg P} : ∀ n, evCallJ C n = evCall algJ C n := by
  intro n
  induction n with
  | zero => rfl
  | succ n ih => funext f args hp nx K; simp only [evCallJ, evCall, ih]
theorem gsim_J {P : Program} {C : Cfg P} (n : Nat) (p : Ex × St) : GSim (JR.is p) (evCallJ C n) (evCall algP C n) := by
  rw [evCallJ_eq]; exact gsim_call (sound_J p) n
theorem evCall_ok {P : Program} {C : Cfg P} (hf : FactsOk C.facts) : ∀ n, CallsOk P (evCall algP C n) := by
  intro n
  induction n with
  | zero => intro f args hp nx K _ h; exact False.elim h
  | succ n ih =>
    intro f args hp nx K hnm h
    simp only [evCall, fOut_eq] at h
    split at h
    · rename_i c hc
      split at h
      · rename_i out hout
        have := c.ok args hp nx none out hnm hout (fun b hb => by cases hb)
        rw [findCon_spec _ _ _ hc] at this
        exact ⟨out, this, h⟩
      · rename_i b out hout
        obtain ⟨h1, h2⟩ := settle_ok hf h
        have := c.ok args hp nx (some b) out hnm hout (fun b' hb => by cases hb; exact h1)
        rw [findCon_spec _ _ _ hc] at this
        exact ⟨out, this, h2⟩
      · exact evBody_ok hf ih (gsim_J n) hnm h
    · exact evBody_ok hf ih (gsim_J n) hnm h

/-! ### Two rows that are equal -/
def Good (r : Two) : Prop := r.1 = r.2
theorem good_fail {p : Prop} (h : Good algT.fail) : p := by cases h
theorem sound_T : Sound algT Good where
  fail := fun h => good_fail h
  ob := fun h => by
    simp only [Good, algT, List.cons.injEq, Item.ob.injEq, true_and] at h
    exact h
  eqI := fun h => by
    simp only [Good, algT, List.cons.injEq] at h
    exact h
  br := fun h => by simp [Good, algT] at h
theorem sim_land {n0 : Nat} {rn : List (Nat × Option Nat)} {S s : St} {K : Two} {K' : Prop} (hK : Good K → K') (h : Good (evLand algT n0 rn S s K)) : evLand algP n0 rn S s K' := gsim_land sound_T hK h
theorem sim_code {P : Program} {facts : Nat → Option (Bool × Bool)} {call : CallF Two} {call' : CallF Prop} (hc : GSim Good call call') {am : Mode} {n0 : Nat} {hook : Nat → Nat → Option (LoopCon P)} {jn : JoinF} (c : Code) (st : St) (K : Ex → St → Two) (K' : Ex → St → Prop) (hK : ∀ e s, Good (K e s) → K' e s)
    (h : Good (evCode algT P facts call hook jn n0 am c st K)) : evCode algP P facts call' hook jn n0 am c st K' := gsim_code sound_T hc c st K K' hK h
theorem sim_body {P : Program} {C : Cfg P} {call : CallF Two} {call' : CallF Prop} (hc : GSim Good call call') {callJ : CallF JR} {f : FuncId} {args : List RV} {hp : Hp} {nx : Nat} {K : Out → Two} {K' : Out → Prop} (hK : ∀ out, Good (K out) → K' out) (h : Good (evBody algT C call callJ f args hp nx K)) : evBody algP C call' callJ f args hp nx K' := gsim_body sound_T hc hK h
theorem sim_call {P : Program} {C : Cfg P} (n : Nat) : GSim Good (evCall algT C n) (evCall algP C n) := gsim_call sound_T n
/-! ### Functions of values alone -/
def Out.value (out : Out) : Option Value := bif out.v.ids.isEmpty && out.W.isEmpty then some (out.v.den env0) else none
/-- Arguments are values; so is the answer; nothing that was there is another. -/
theorem value_of {P : Program} {f : FuncId} {args : List RV} {V : Value} {out : Out} (hok : CallOk P f args [] 0 out) (hV : out.value = some V) (w : World) :
    Calls P f (args.map (RV.den env0)).toArray w fun en w' => en = .returned V ∧ Below w.heap.size w w' := by
  refine (hok env0 w ⟨fun id o h => by simp [hlook] at h, fun id o h => by simp [hlook] at h⟩).mono fun en w' ⟨e', hen, hp⟩ => ?_
  unfold Out.value at hV
  cases hb : (out.v.ids.isEmpty && out.W.isEmpty) with
  | false => rw [hb] at hV; cases hV
  | true =>
    rw [hb] at hV
    simp only [cond_true, Option.some.injEq] at hV
    simp only [Bool.and_eq_true, List.isEmpty_iff] at hb
    refine ⟨by rw [hen, ← hV, RV.den_same out.v fun id hid => by rw [hb.1] at hid; cases hid], ⟨hp.os, hp.tape, hp.output, hp.size, fun k hk => hp.fr k hk fun id hid => by rw [hb.2] at hid; cases hid⟩⟩
theorem names_nil {args : List RV} (hids : args.all (fun r => r.ids.isEmpty) = true) : Names args [] 0 := by
  refine ⟨fun r hr i hi => ?_, fun id o h => by simp [hlook] at h⟩
  have := List.all_eq_true.1 hids r hr
  simp only [List.isEmpty_iff] at this
  rw [this] at hi; cases hi
theorem eng_value {P : Program} {C : Cfg P} (hf : FactsOk C.facts) {n : Nat} {f : FuncId} {args : List RV} {V : Value} (hids : args.all (fun r => r.ids.isEmpty) = true)
    (h : evCall algP C n f args [] 0 fun out => out.value = some V) (w : World) :
    Calls P f (args.map (RV.den env0)).toArray w fun en w' => en = .returned V ∧ Below w.heap.size w w' := by
  obtain ⟨out, hok, hV⟩ := evCall_ok hf n f args [] 0 _ (names_nil hids) h
  exact value_of hok hV w
/-- The same by two rows of values, which the kernel compares. -/
def Out.two (V : Value) (out : Out) : Two := match out.value with | some v => ([.v v], [.v V]) | none => ([], [.no])
theorem eng_two {P : Program} {C : Cfg P} (hf : FactsOk C.facts) {n : Nat} {f : FuncId} {args : List RV} {V : Value} (hids : args.all (fun r => r.ids.isEmpty) = true)
    (h : (evCall algT C n f args [] 0 (Out.two V)).1 = (evCall algT C n f args [] 0 (Out.two V)).2) (w : World) :
    Calls P f (args.map (RV.den env0)).toArray w fun en w' => en = .returned V ∧ Below w.heap.size w w' := by
  refine eng_value hf hids (sim_call n _ _ _ _ _ _ (fun out ho => ?_) h) w
  unfold Out.two at ho
  split at ho
  · rename_i v hv
    simp only [Good, List.cons.injEq, and_true, Item.v.injEq] at ho
    rw [hv, ho]
  · cases ho
/-- What a call leaves: its answer, and what lies under the names that are new or hold something else. -/
def outRow (out : Out) : Item := .st [out.v] (out.up.map (·.2))
def Out.full (O : Out) (out : Out) : Two :=
  bif Nat.ble out.nx O.nx && Nat.beq out.W.length O.W.length && (out.W.zip O.W).all (fun p => Nat.beq p.1 p.2) && Nat.beq out.up.length O.up.length && (out.up.zip O.up).all (fun p => Nat.beq p.1.1 p.2.1) then
    fRV out.v.unk fun v => fL fE out.up fun up => ([.st [v] (up.map fun p => p.2.unk)], [.st [O.v.unk] (O.up.map fun p => p.2.unk)]) else algT.fail
theorem zip_beq : ∀ {l l' : List Nat}, l.length = l'.length → ((l.zip l').all fun p => Nat.beq p.1 p.2) = true → l = l' := by
  intro l
  induction l with
  | nil => intro l' h _; cases l' with
    | nil => rfl
    | cons _ _ => cases h
  | cons a l ih =>
    intro l' h h2
    cases l' with
    | nil => cases h
    | cons b l' =>
      simp only [List.zip_cons_cons, List.all_cons, Bool.and_eq_true] at h2
      rw [Nat.eq_of_beq_eq_true h2.1, ih (by simpa using h) h2.2]
theorem keys_eq : ∀ {l l' : Hp}, l.length = l'.length → ((l.zip l').all fun p => Nat.beq p.1.1 p.2.1) = true → l.map (·.1) = l'.map (·.1) := by
  intro l
  induction l with
  | nil => intro l' h _; cases l' with
    | nil => rfl
    | cons _ _ => cases h
  | cons a l ih =>
    intro l' h h2
    cases l' with
    | nil => cases h
    | cons b l' =>
      simp only [List.zip_cons_cons, List.all_cons, Bool.and_eq_true] at h2
      simp only [List.map_cons]
      rw [Nat.eq_of_beq_eq_true h2.1, ih (by simpa using h) h2.2]
theorem hlook_pair : ∀ {l l' : Hp}, l.map (·.1) = l'.map (·.1) → l.map (fun p => p.2.unk) = l'.map (fun p => p.2.unk) → ∀ id o', hlook l' id = some o' → ∃ o, hlook l id = some o ∧ o.unk = o'.unk := by
  intro l
  induction l with
  | nil =>
    intro l' h _ id o' ho
    cases l' with
    | nil => cases ho
    | cons _ _ => cases h
  | cons a l ih =>
    obtain ⟨i, o⟩ := a
    intro l' h h2 id o' ho
    cases l' with
    | nil => cases h
    | cons b l' =>
      obtain ⟨i', o2⟩ := b
      simp only [List.map_cons, List.cons.injEq] at h h2
      obtain ⟨rfl, h⟩ := h
      simp only [hlook] at ho ⊢
      cases hb : Nat.beq i id with
      | true => rw [hb] at ho; cases ho; exact ⟨o, rfl, h2.1⟩
      | false => rw [hb] at ho; exact ih h h2.2 id o' ho
theorem unk_holds_of {e : Env} {w : World} {id : Nat} {o o' : HO} (h : o.unk = o'.unk) : (o'.holds e w id ↔ o.holds e w id) ∧ (∀ b, o'.owns e id b ↔ o.owns e id b) ∧ ∀ b, o'.foot e id b ↔ o.foot e id b :=
  ⟨by rw [← HO.unk_holds (o := o), h, HO.unk_holds], fun b => by rw [← HO.unk_owns (o := o), h, HO.unk_owns], fun b => by rw [← HO.unk_foot (o := o), h, HO.unk_foot]⟩
theorem CallOk.full {P : Program} {f : FuncId} {args : List RV} {hp : Hp} {nx : Nat} {out O : Out} (h : CallOk P f args hp nx out) (hg : Good (Out.full O out)) : CallOk P f args hp nx O := by
  unfold Out.full at hg
  cases hb : (Nat.ble out.nx O.nx && Nat.beq out.W.length O.W.length && (out.W.zip O.W).all (fun p => Nat.beq p.1 p.2) && Nat.beq out.up.length O.up.length && (out.up.zip O.up).all (fun p => Nat.beq p.1.1 p.2.1)) with
  | false => rw [hb] at hg; exact good_fail hg
  | true =>
    rw [hb] at hg
    simp only [cond_true, fRV_eq, fL_eq fE fE_eq, Good, List.cons.injEq, Item.st.injEq, and_true] at hg
    obtain ⟨hv, hu⟩ := hg
    simp only [Bool.and_eq_true] at hb
    obtain ⟨⟨⟨⟨b1, b2⟩, b3⟩, b4⟩, b5⟩ := hb
    have b1 := Nat.le_of_ble_eq_true b1
    have b2 := zip_beq (Nat.eq_of_beq_eq_true b2) b3
    have b4 := keys_eq (Nat.eq_of_beq_eq_true b4) b5
    intro e w hs
    refine (h e w hs).mono fun en w' ⟨e', hen, hp'⟩ => ⟨e', ?_, ?_⟩
    · rw [hen, ← RV.unk_den, hv, RV.unk_den]
    · refine ⟨fun id hid => hp'.agree id (hid.imp_right fun h => Nat.le_trans b1 h), hp'.os, hp'.tape, hp'.output, hp'.size, by rw [← b2]; exact hp'.fr, ⟨fun id o ho => ?_, fun id o ho id' o' ho' hne b hb hf => ?_⟩, fun id o b ho hb => ?_, fun id o b ho hb => ?_⟩
      · obtain ⟨o1, h1, h2⟩ := hlook_pair b4 hu id o ho
        exact (unk_holds_of h2).1.2 (hp'.sat.holds id o1 h1)
      · obtain ⟨o1, h1, h2⟩ := hlook_pair b4 hu id o ho
        obtain ⟨o2, h3, h4⟩ := hlook_pair b4 hu id' o' ho'
        exact hp'.sat.apart id o1 h1 id' o2 h3 hne b (((unk_holds_of (w := w') h2).2.1 b).1 hb) (((unk_holds_of (w := w') h4).2.2 b).1 hf)
      · obtain ⟨o1, h1, h2⟩ := hlook_pair b4 hu id o ho
        rw [← b2]
        exact hp'.own id o1 b h1 (((unk_holds_of (w := w) h2).2.1 b).1 hb)
      · obtain ⟨o1, h1, h2⟩ := hlook_pair b4 hu id o ho
        rw [← b2]
        exact hp'.foot id o1 b h1 (((unk_holds_of (w := w) h2).2.2 b).1 hb)
/-- A call of any kind, by two rows. -/
theorem eng_call {P : Program} {C : Cfg P} (hf : FactsOk C.facts) {n : Nat} {f : FuncId} {args : List RV} {hp : Hp} {nx : Nat} {O : Out} (hnm : namesB ⟨args, hp, nx, []⟩ = true)
    (h : (evBody algT C (evCall algT C n) (evCallJ C n) f args hp nx (Out.full O)).1 = (evBody algT C (evCall algT C n) (evCallJ C n) f args hp nx (Out.full O)).2) : CallOk P f args hp nx O := by
  obtain ⟨out, h1, h2⟩ := evBody_ok hf (evCall_ok hf n) (gsim_J n) (K := fun out => Good (Out.full O out)) (namesB_spec hnm) (sim_body (sim_call n) (fun out ho => ho) h)
  exact h1.full h2
def noFacts : Nat → Option (Bool × Bool) := fun _ => none
theorem noFacts_ok : FactsOk noFacts := fun _ _ _ h => by cases h
end Go.Proofs.Ythgneojhhocflaa
