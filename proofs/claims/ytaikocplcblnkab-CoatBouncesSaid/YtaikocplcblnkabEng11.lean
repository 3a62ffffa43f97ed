/- A symbolic way through the code of a call: calls as a whole. No condition. -/
import Derived.Test.YtaikocplcblnkabEng10
set_option linter.unusedVariables false
namespace Go.Proofs.Ytaikocplcblnkab
open Go.RowKit

theorem Stands.tmp {n0 base : Nat} {H0 : Nat → Option HO} {st : St} {e : Env} {a : Act} {w : World} (h : Stands n0 base H0 st e a w) (t : Nat) : a.tmps.getD t undef = (st.fr.getD t RV.und).den e := by
  have h3 : a.tmps.toList[t]? = (st.fr.map (RV.den e))[t]? := by rw [h.fr]
  rw [Array.getElem?_toList, List.getElem?_map] at h3
  rw [Array.getD_eq_getD_getElem?, h3, List.getD_eq_getElem?_getD]
  cases st.fr[t]? <;> rfl
def resSem (tmps : Array Value) (r : ResultVar) : Sem Value :=
  match r with
  | .tmp t => pure (tmps.getD t undef)
  | .cell b t => do loadVar t (← asAddr (tmps.getD b undef))
theorem resOne_ok {P : Program} {n0 base : Nat} {H0 : Nat → Option HO} {st : St} {e : Env} {a : Act} {w : World} (h : Stands n0 base H0 st e a w) {r : ResultVar} {s : SV} (hr : resOne P st.fr st.hp r = some s) :
    (resSem a.tmps r).run P w = .ok (s.den e) w := by
  unfold resSem
  cases r with
  | tmp t =>
    simp only [resOne] at hr
    split at hr
    · rename_i s' hs'
      cases hr
      simp only [h.tmp t, hs', Sem.run_pure]; rfl
    · cases hr
  | cell b t =>
    simp only [resOne] at hr
    split at hr
    · rename_i id off hs'
      split at hr
      · rename_i cs ty hl
        have := ldCells_load hr (holds_cells_cell (h.sat.holds _ _ hl))
        rw [Nat.zero_add] at this
        simp only [h.tmp b, hs', RV.den, SV.den, CV.den, asAddr, Sem.run_bind, Sem.run_pure, Result.andThen_ok]
        exact this
      · cases hr
    · cases hr
theorem resAll_ok {P : Program} {n0 base : Nat} {H0 : Nat → Option HO} {st : St} {e : Env} {a : Act} {w : World} (h : Stands n0 base H0 st e a w) : ∀ (l : List ResultVar) (svs : List SV), resAll P st.fr st.hp l = some svs →
    (l.mapM (resSem a.tmps)).run P w = .ok (svs.map (SV.den e)) w := by
  intro l
  induction l with
  | nil => intro svs hr; simp only [resAll, Option.some.injEq] at hr; subst hr; simp
  | cons r l ih =>
    intro svs hr
    simp only [resAll] at hr
    split at hr
    · rename_i s l' hs hl
      cases hr
      rw [List.mapM_cons]
      simp only [Sem.run_bind]
      rw [resOne_ok h hs]
      simp only [Result.andThen_ok, ih _ hl, Sem.run_pure, List.map_cons]
    · cases hr
theorem results_ok {P : Program} {fn : Func} {n0 base : Nat} {H0 : Nat → Option HO} {st : St} {e : Env} {a : Act} {w : World} (h : Stands n0 base H0 st e a w) {l : List SV} (hr : resAll P st.fr st.hp fn.results.toList = some l) :
    (results fn a.tmps).run P w = .ok ((oneOrTup l).den e) w := by
  have key := resAll_ok h _ _ hr
  have e1 : results fn a.tmps = (do
    let vs ← fn.results.mapM (resSem a.tmps)
    pure (if h : vs.size = 1 then vs[0] else .tuple vs)) := rfl
  rw [e1, Array.mapM_eq_mapM_toList]
  simp only [Sem.run_bind, Sem.run_map, key, Result.andThen_ok, Sem.run_pure]
  congr 1
  match l with
  | [] => rfl
  | [s] => rfl
  | s :: s' :: l => rfl
theorem evRes_ok {P : Program} {fn : Func} {s : St} {nx : Nat} {K : Out → Prop} (h : evRes algP P fn s nx K) : ∃ out, K out ∧ (∀ i ∈ out.W, i ∈ s.W ∧ i < nx) ∧ (∀ i ∈ s.W, i < nx → i ∈ out.W) ∧ out.nx = s.nx ∧ (∀ id o, hlook out.up id = some o → hlook s.hp id = some o) ∧
    ∃ l, resAll P s.fr s.hp fn.results.toList = some l ∧ out.v = oneOrTup l := by
  unfold evRes at h
  split at h
  · rename_i l hl
    refine ⟨_, h, fun i hi => ?_, fun i hi hlt => ?_, rfl, fun id o ho => (hlook_restrict ho).2, l, hl, rfl⟩
    · have := List.mem_filter.1 hi
      exact ⟨this.1, blt_spec this.2⟩
    · exact List.mem_filter.2 ⟨hi, Nat.ble_eq_true_of_le hlt⟩
  · exact False.elim h
theorem names_pad {args : List RV} {hp : Hp} {nx n : Nat} (h : Names args hp nx) : Names (args ++ List.replicate n RV.und) hp nx := by
  refine ⟨fun r hr i hi => ?_, h.hp⟩
  rcases List.mem_append.1 hr with hr | hr
  · exact h.fr r hr i hi
  · rw [(List.mem_replicate.1 hr).2] at hi
    simp [RV.und, RV.ids, SV.ids, CV.ids] at hi
theorem inline_ok {P : Program} {f : FuncId} {fn : Func} {c : Code} {args : List RV} {hp : Hp} {nx : Nat} {s : St} {ex : Ex} {out : Out} {l : List SV} (hf : P.funcs[f]? = some fn) (hb : fn.body = some c) (hnm : Names args hp nx)
    (hc : CodeOk P c ⟨args ++ List.replicate (fn.ntmps - args.length) RV.und, hp, nx, []⟩ ex s) (hex : ex = .normal ∨ ex = .ret)
    (h1 : ∀ i ∈ s.W, i < nx → i ∈ out.W) (h2 : out.nx = s.nx) (h3 : ∀ id o, hlook out.up id = some o → hlook s.hp id = some o) (h4 : resAll P s.fr s.hp fn.results.toList = some l) (h5 : out.v = oneOrTup l) :
    CallOk P f args hp nx out := by
  intro e w hsat
  refine calls_of_wp hf hb ?_
  refine hc.goes (names_pad hnm) nx w.heap.size (hlook hp) e _ w (Nat.le_refl _) (Nat.le_refl _) ⟨?_, rfl, hsat, fun id o b ho hi _ => ?_, fun id o ho _ => .inl ho⟩ _ fun e' a' w' hm hs' => ?_
  · simp [RV.den, RV.und, SV.den, CV.den]
  · have := (hnm.hp id o ho).1
    omega
  · have hpost : ∃ e'', Ending.returned ((oneOrTup l).den e') = Ending.returned (out.v.den e'') ∧ PostOp e e'' (hlook hp) nx out w w' := by
      refine ⟨e', by rw [h5], ⟨fun id hid => hm.agree id (by rw [← h2]; exact hid), hm.os, hm.tape, hm.output, hm.size, fun k hk hne => hm.fr k hk fun id hid hlt => hne id (h1 id hid hlt), hs'.sat.sub h3, fun id o b ho hf' => ?_⟩⟩
      by_cases hid : id < nx
      · rcases hs'.old id o (h3 _ _ ho) hid with h6 | ⟨h6, cs, ty, h7⟩
        · exact .inr (.inl ⟨o, h6, rfl, (HO.foot_same (hm.agree id (.inl hid))).1 hf'⟩)
        · cases o with
          | cells cs' ty' => exact .inr (.inl ⟨_, h7, rfl, (HO.foot_same (o := HO.cells cs' ty') (hm.agree id (.inl hid))).1 hf'⟩)
          | ro _ => cases h6
          | grid _ _ _ => cases h6
      · rcases hs'.org id o b (h3 _ _ ho) (by omega) hf' with h6 | ⟨h6, id0, o0, g1, g2, g3, g4⟩
        · exact .inl h6
        · exact .inr (.inr ⟨h6, id0, o0, g2, g3, (HO.foot_same (hm.agree id0 (.inl g1))).1 g4⟩)
    rcases hex with rfl | rfl
    · exact ⟨hs'.defers, _, results_ok hs' h4, hpost⟩
    · exact ⟨hs'.defers, _, results_ok hs' h4, hpost⟩
theorem findCon_spec {P : Program} : ∀ (l : List (Con P)) (f : FuncId) (c : Con P), findCon l f = some c → c.f = f := by
  intro l
  induction l with
  | nil => intro f c h; cases h
  | cons x l ih =>
    intro f c h
    simp only [findCon] at h
    cases hb : Nat.beq x.f f with
    | true => rw [hb] at h; cases h; exact Nat.eq_of_beq_eq_true hb
    | false => rw [hb] at h; exact ih f c h
theorem evCall_ok {P : Program} {C : Cfg P} (hf : FactsOk C.facts) : ∀ n, CallsOk P (evCall algP C n) := by
  intro n
  induction n with
  | zero => intro f args hp nx K _ h; exact False.elim h
  | succ n ih =>
    intro f args hp nx K hnm h
    simp only [evCall] at h
    split at h
    · rename_i c hc
      split at h
      · rename_i out hout
        have := c.ok args hp nx out hnm hout
        rw [findCon_spec _ _ _ hc] at this
        exact ⟨out, this, h⟩
      · exact False.elim h
    · split at h
      · rename_i fn hfn
        split at h
        · rename_i c hb
          obtain ⟨ex, s, h1, h2⟩ := evCode_ok hf ih c _ _ (names_pad hnm) h
          cases ex with
          | normal =>
            obtain ⟨out, k1, k2, k3, k4, k5, l, k6, k7⟩ := evRes_ok h2
            exact ⟨out, inline_ok hfn hb hnm h1 (.inl rfl) k3 k4 k5 k6 k7, k1⟩
          | exit i => exact False.elim h2
          | ret =>
            obtain ⟨out, k1, k2, k3, k4, k5, l, k6, k7⟩ := evRes_ok h2
            exact ⟨out, inline_ok hfn hb hnm h1 (.inr rfl) k3 k4 k5 k6 k7, k1⟩
        · exact False.elim h
      · exact False.elim h

/-! ### Two rows that are equal serve for the proposition -/
def Good (r : Two) : Prop := r.1 = r.2
theorem good_fail {p : Prop} (h : Good algT.fail) : p := by cases h
theorem good_eq {x y : Value} {r : Two} (h : Good (algT.eq x y r)) : x = y ∧ Good r := by
  simp only [Good, algT, List.cons.injEq] at h
  exact h
theorem undef_ne_bool {b : Bool} {p : Prop} (h : Good ([.bool b], [undef])) : p := by
  simp [Good, undef] at h
theorem undef_ne_two {n : Int} {b : Bool} {p : Prop} (h : Good ([.int .i64 n, .bool b], [undef])) : p := by
  simp [Good] at h
def Sim (call : CallF Two) (call' : CallF Prop) : Prop := ∀ f args hp nx (K : Out → Two) (K' : Out → Prop), (∀ out, Good (K out) → K' out) → Good (call f args hp nx K) → call' f args hp nx K'
section
variable {P : Program} {facts : Nat → Option (Bool × Bool)}
theorem sim_simple {o : Oper} {get : Operand → RV} {hp : Hp} {nx : Nat} {K : Out → Two} {K' : Out → Prop} (hK : ∀ out, Good (K out) → K' out) (h : Good (evSimple algT P o get hp nx K)) : evSimple algP P o get hp nx K' := by
  unfold evSimple at h ⊢
  split
  · rename_i out hout
    rw [hout] at h
    simp only at h
    cases hb : out.up.all (fun p => p.2.ids.all (fun i => Nat.blt i nx)) with
    | false => rw [hb] at h; exact good_fail h
    | true => rw [hb] at h; exact hK _ h
  · rename_i hout
    rw [hout] at h
    exact good_fail h
theorem sim_settle {nx : Nat} {p : Prop} [Decidable p] {r : Two} {q : Prop} (hr : Good r → q) (h : Good (settle algT facts nx p r)) : settle algP facts nx p q := by
  unfold settle at h ⊢
  split
  · rename_i b hb
    rw [hb] at h
    exact ⟨(good_eq h).1, hr (good_eq h).2⟩
  · rename_i hne
    split at h
    · rename_i b hb; exact absurd hb (hne b)
    · exact undef_ne_two h
theorem sim_ext {o : Oper} {get : Operand → RV} {hp : Hp} {nx : Nat} {t : TypeId} {x i : Operand} {K : Out → Two} {K' : Out → Prop} (hK : ∀ out, Good (K out) → K' out) (h : Good (evExt algT P facts o get hp nx t x i K)) : evExt algP P facts o get hp nx t x i K' := by
  unfold evExt at h ⊢
  split
  · rename_i id hg
    rw [hg] at h
    simp only at h
    split
    · rename_i ks n z j el h1 h2 h3
      rw [h1, h2, h3] at h
      simp only at h
      split
      · rename_i s hs
        rw [hs] at h
        simp only at h
        cases hb : Nat.beq s ks.length with
        | false => rw [hb] at h; exact good_fail h
        | true => rw [hb] at h; exact sim_settle (hK _) h
      · rename_i hs; rw [hs] at h; exact good_fail h
    · rename_i hne
      split at h
      · rename_i ks n z j el h1 h2 h3; exact absurd h3 (hne _ _ _ _ _ h1 h2)
      · exact good_fail h
  · rename_i hne
    split at h
    · rename_i id hg; exact absurd hg (hne id)
    · exact sim_simple hK h
theorem sim_meet {nx : Nat} {b : Bool} {K : Bool → Two} {K' : Bool → Prop} (hK : ∀ d, Good (K d) → K' d) (h : Good (meet algT facts nx b K)) : meet algP facts nx b K' := by
  unfold meet at h ⊢
  split
  · rename_i b' d hb
    rw [hb] at h
    exact ⟨(good_eq h).1, hK _ (good_eq h).2⟩
  · rename_i hb
    rw [hb] at h
    exact undef_ne_two h
theorem sim_eq {o : Oper} {get : Operand → RV} {hp : Hp} {nx : Nat} {t : TypeId} {x y : Operand} {K : Out → Two} {K' : Out → Prop} (hK : ∀ out, Good (K out) → K' out) (h : Good (evEq algT P facts o get hp nx t x y K)) : evEq algP P facts o get hp nx t x y K' := by
  unfold evEq at h ⊢
  split
  · rename_i b d' h1 h2
    rw [h1, h2] at h
    refine sim_meet (fun d h => ?_) h
    split
    · rename_i hu
      rw [hu] at h
      exact hK _ h
    · rename_i hne
      split at h
      · rename_i hu; exact absurd hu hne
      · exact good_fail h
  · rename_i d' b h1 h2
    rw [h1, h2] at h
    refine sim_meet (fun d h => ?_) h
    split
    · rename_i hu
      rw [hu] at h
      exact hK _ h
    · rename_i hne
      split at h
      · rename_i hu; exact absurd hu hne
      · exact good_fail h
  · rename_i s s' hne0 hne1 h1 h2
    rw [h1, h2] at h
    split at h
    · rename_i b d' g1 g2
      cases g1
      cases g2
      exact absurd rfl (hne0 _ _ rfl)
    · rename_i b d' g1 g2
      cases g1
      cases g2
      exact absurd rfl (hne1 _ _ rfl)
    rotate_left
    · rename_i g1; exact absurd rfl (fun h => g1 _ _ rfl h)
    rename_i g0 g3 g1 g2
    cases g1
    cases g2
    cases hb : (s.ids.isEmpty && s'.ids.isEmpty && !P.eqGuardType P.depth t) with
    | false => rw [hb] at h; exact good_fail h
    | true =>
      rw [hb] at h
      simp only [cond_true] at h ⊢
      split
      · rename_i b hbb
        rw [hbb] at h
        exact ⟨(good_eq h).1, hK _ (good_eq h).2⟩
      · rename_i hbb
        rw [hbb] at h
        exact good_fail h
  · rename_i hne0 hne1 hne
    split at h
    · rename_i b d' h1 h2; exact absurd h2 (hne0 _ _ h1)
    · rename_i b d' h1 h2; exact absurd h2 (hne1 _ _ h1)
    · rename_i s s' h0 h3 h1 h2; exact absurd h2 (hne _ _ h1)
    · exact good_fail h
theorem sim_op {call : CallF Two} {call' : CallF Prop} (hc : Sim call call') {am : Bool} {o : Oper} {get : Operand → RV} {hp : Hp} {nx : Nat} {K : Out → Two} {K' : Out → Prop} (hK : ∀ out, Good (K out) → K' out) (h : Good (evOp algT P facts call am o get hp nx K)) : evOp algP P facts call' am o get hp nx K' := by
  unfold evOp at h ⊢
  split
  · rename_i c ho
    rw [ho] at h
    simp only at h
    split
    · rename_i g caps hcal
      rw [hcal] at h
      simp only at h
      cases hg : goesIn P g with
      | false => rw [hg] at h; exact good_fail h
      | true => rw [hg] at h; exact hc _ _ _ _ _ _ hK h
    · rename_i hcal
      rw [hcal] at h
      exact sim_simple hK h
  · rename_i t x i ho
    rw [ho] at h
    exact sim_ext hK h
  · rename_i t x y yt ho
    rw [ho] at h
    simp only at h
    cases am with
    | true => exact sim_eq (o := o) (hp := hp) hK h
    | false => exact sim_simple hK h
  · rename_i h1 h2 h3
    split at h
    · rename_i c ho; exact absurd ho (h1 c)
    · rename_i t x i ho; exact absurd ho (h2 t x i)
    · rename_i t x y yt ho; exact absurd ho (h3 t x y yt)
    · exact sim_simple hK h
theorem sim_decide {g : Bool} {nx : Nat} {v : RV} {K : RV → Nat → Two} {K' : RV → Nat → Prop} (hK : ∀ v n, Good (K v n) → K' v n) (h : Good (decideRV algT facts g nx v K)) : decideRV algP facts g nx v K' := by
  unfold decideRV at h ⊢
  split
  · exact sim_meet (fun d => hK _ _) h
  · rename_i hne
    split at h
    · rename_i b; exact absurd rfl (hne b rfl)
    · exact hK _ _ h
theorem sim_ops {call : CallF Two} {call' : CallF Prop} (hc : Sim call call') {am : Bool} {ops : Array Oper} : ∀ (l : List Oper) (fr : List RV) (hp : Hp) (nx : Nat) (trs : List Tr) (K : List RV → Hp → Nat → List Tr → Two) (K' : List RV → Hp → Nat → List Tr → Prop),
    (∀ a b c d, Good (K a b c d) → K' a b c d) → Good (evOps algT P facts call am ops l fr hp nx trs K) → evOps algP P facts call' am ops l fr hp nx trs K' := by
  intro l
  induction l with
  | nil => intro fr hp nx trs K K' hK h; exact hK _ _ _ _ h
  | cons o rest ih =>
    intro fr hp nx trs K K' hK h
    have run : ∀ (R : List Nat), Good (evOp algT P facts call am o (opnd fr) (restrict hp R) nx fun out =>
        bif okOut (restrict hp R) nx out.v out.up out.nx out.W && boundOk o.dst fr.length then
          decideRV algT facts (isGuard ops.toList trs.length) out.nx out.v fun v nx' =>
            evOps algT P facts call am ops rest (putL fr o.dst v) (out.up ++ hp) nx' (⟨o.dst, v, out.up, out.W, R, nx, nx', looksOf ops o⟩ :: trs) K
        else algT.fail) → evOp algP P facts call' am o (opnd fr) (restrict hp R) nx fun out =>
        bif okOut (restrict hp R) nx out.v out.up out.nx out.W && boundOk o.dst fr.length then
          decideRV algP facts (isGuard ops.toList trs.length) out.nx out.v fun v nx' =>
            evOps algP P facts call' am ops rest (putL fr o.dst v) (out.up ++ hp) nx' (⟨o.dst, v, out.up, out.W, R, nx, nx', looksOf ops o⟩ :: trs) K'
        else algP.fail := by
      intro R hr
      refine sim_op hc (fun out h => ?_) hr
      cases hb : (okOut (restrict hp R) nx out.v out.up out.nx out.W && boundOk o.dst fr.length) with
      | false => rw [hb] at h; exact good_fail h
      | true =>
        rw [hb] at h
        simp only [cond_true] at h ⊢
        exact sim_decide (fun v n h => ih _ _ _ _ K K' hK h) h
    simp only [evOps, fL_eq fN fN_eq, fL_eq fE fE_eq, fL_eq fId fun _ _ => rfl, fRV_eq, fN_eq] at h ⊢
    split
    · rename_i hgd
      rw [hgd] at h
      exact run _ h
    · rename_i g want hgd
      rw [hgd] at h
      simp only at h
      split
      · rename_i s hs
        rw [hs] at h
        simp only at h
        split
        · rename_i k b hfr
          rw [hfr] at h
          simp only at h
          cases hbw : (b == want) with
          | true => rw [hbw] at h; exact run _ h
          | false =>
            rw [hbw] at h
            simp only [cond_false] at h ⊢
            cases hb : boundOk o.dst fr.length with
            | false => rw [hb] at h; exact good_fail h
            | true => rw [hb] at h; exact ih _ _ _ _ K K' hK h
        · rename_i hfr
          rw [hfr] at h
          simp only at h
          cases hb : boundOk o.dst fr.length with
          | false => rw [hb] at h; exact good_fail h
          | true => rw [hb] at h; exact ih _ _ _ _ K K' hK h
        · rename_i hne hne2
          split at h
          · rename_i k b hfr; exact absurd hfr (hne k b)
          · rename_i hfr; exact absurd hfr hne2
          · exact good_fail h
      · rename_i hs
        rw [hs] at h
        exact good_fail h
theorem sim_code {call : CallF Two} {call' : CallF Prop} (hc : Sim call call') {am : Bool} {hook : List Nat} : ∀ (c : Code) (st : St) (K : Ex → St → Two) (K' : Ex → St → Prop), (∀ e s, Good (K e s) → K' e s) →
    Good (evCode algT P facts call hook am c st K) → evCode algP P facts call' hook am c st K' := by
  intro c
  induction c with
  | skip => intro st K K' hK h; exact hK _ _ h
  | label l => intro st K K' hK h; exact hK _ _ h
  | exit id => intro st K K' hK h; exact hK _ _ h
  | ret => intro st K K' hK h; exact hK _ _ h
  | region id ops draw =>
    intro st K K' hK h
    refine sim_ops hc _ _ _ _ _ _ _ (fun fr hp nx trs h => ?_) h
    cases hb : (!draw || (P.follows .mixedOrders && edgesBack ops.toList 0 && chkAll trs (masks ops.toList []))) with
    | false => rw [hb] at h; exact good_fail h
    | true => rw [hb] at h; exact hK _ _ h
  | seq x y ihx ihy =>
    intro st K K' hK h
    refine ihx _ _ _ (fun ex s h => ?_) h
    cases ex with
    | normal => exact ihy _ _ _ hK h
    | exit i => exact hK _ _ h
    | ret => exact hK _ _ h
  | cond c x y ihx ihy =>
    intro st K K' hK h
    simp only [evCode] at h ⊢
    split
    · rename_i k b hc'
      rw [hc'] at h
      simp only at h
      cases k with
      | true =>
        cases b with
        | true => exact ihx _ _ _ hK h
        | false => exact ihy _ _ _ hK h
      | false =>
        refine sim_meet (fun d h => ?_) h
        cases d with
        | true => exact ihx _ _ _ hK h
        | false => exact ihy _ _ _ hK h
    · rename_i hne
      split at h
      · rename_i k b hc'; exact absurd hc' (hne k b)
      · exact good_fail h
  | block id c ih =>
    intro st K K' hK h
    simp only [evCode] at h ⊢
    cases hh : hook.any (Nat.beq id) with
    | true => rw [hh] at h; exact undef_ne_bool h
    | false =>
      rw [hh] at h
      refine ih _ _ _ (fun ex s h => ?_) h
      cases ex with
      | normal => exact hK _ _ h
      | exit i =>
        simp only at h ⊢
        cases hi : Nat.beq i id with
        | true => rw [hi] at h; exact hK _ _ h
        | false => rw [hi] at h; exact hK _ _ h
      | ret => exact hK _ _ h
  | loop c ih =>
    intro st K K' hK h
    have key : ∀ n st (K : Ex → St → Two) (K' : Ex → St → Prop), (∀ e s, Good (K e s) → K' e s) → Good (evLoop algT (evCode algT P facts call hook am c) n st K) → evLoop algP (evCode algP P facts call' hook am c) n st K' := by
      intro n
      induction n with
      | zero => intro st K K' _ h; exact good_fail h
      | succ n ihn =>
        intro st K K' hK h
        refine ih _ _ _ (fun ex s h => ?_) h
        cases ex with
        | normal => exact ihn _ _ _ hK h
        | exit i => exact hK _ _ h
        | ret => exact hK _ _ h
    exact key 300 st K K' hK h
  | scope c ih => intro st K K' hK h; exact ih _ _ _ hK h
  | rangeFunc f p a b _ _ => intro st K K' _ h; exact good_fail h
  | goto l => intro st K K' _ h; exact good_fail h
  | refuse s => intro st K K' _ h; exact good_fail h
theorem sim_call {C : Cfg P} : ∀ n, Sim (evCall algT C n) (evCall algP C n) := by
  intro n
  induction n with
  | zero => intro f args hp nx K K' _ h; exact good_fail h
  | succ n ih =>
    intro f args hp nx K K' hK h
    simp only [evCall] at h ⊢
    split
    · rename_i c hc
      rw [hc] at h
      simp only at h
      split
      · rename_i out hout; rw [hout] at h; exact hK _ h
      · rename_i hout; rw [hout] at h; exact good_fail h
    · rename_i hc
      rw [hc] at h
      simp only at h
      split
      · rename_i fn hfn
        rw [hfn] at h
        simp only at h
        split
        · rename_i c hb
          rw [hb] at h
          have res : ∀ s, Good (evRes algT P fn s nx K) → evRes algP P fn s nx K' := by
            intro s h
            unfold evRes at h ⊢
            split
            · rename_i l hl; rw [hl] at h; exact hK _ h
            · rename_i hl; rw [hl] at h; exact good_fail h
          refine sim_code ih _ _ _ _ (fun ex s h => ?_) h
          cases ex with
          | normal => exact res s h
          | exit i => exact good_fail h
          | ret => exact res s h
        · rename_i hb; rw [hb] at h; exact good_fail h
      · rename_i hfn; rw [hfn] at h; exact good_fail h
end
/-! ### Functions of values alone -/
def Out.value (out : Out) : Option Value := bif out.v.ids.isEmpty && out.W.isEmpty then some (out.v.den env0) else none
/-- Arguments are values; so is the answer; nothing that was there is another. -/
theorem eng_value {P : Program} {C : Cfg P} (hf : FactsOk C.facts) {n : Nat} {f : FuncId} {args : List RV} {V : Value} (hids : args.all (fun r => r.ids.isEmpty) = true)
    (h : evCall algP C n f args [] 0 fun out => out.value = some V) (w : World) :
    Calls P f (args.map (RV.den env0)).toArray w fun en w' => en = .returned V ∧ Below w.heap.size w w' := by
  have hnm : Names args [] 0 := by
    refine ⟨fun r hr i hi => ?_, fun id o h => by simp [hlook] at h⟩
    have := List.all_eq_true.1 hids r hr
    simp only [List.isEmpty_iff] at this
    rw [this] at hi; cases hi
  obtain ⟨out, hok, hV⟩ := evCall_ok hf n f args [] 0 _ hnm h
  refine (hok env0 w ⟨fun id o h => by simp [hlook] at h, fun id cs t h => by simp [hlook] at h⟩).mono fun en w' ⟨e', hen, hp⟩ => ?_
  unfold Out.value at hV
  cases hb : (out.v.ids.isEmpty && out.W.isEmpty) with
  | false => rw [hb] at hV; cases hV
  | true =>
    rw [hb] at hV
    simp only [cond_true, Option.some.injEq] at hV
    simp only [Bool.and_eq_true, List.isEmpty_iff] at hb
    refine ⟨by rw [hen, ← hV, RV.den_same out.v fun id hid => by rw [hb.1] at hid; cases hid], ⟨hp.os, hp.tape, hp.output, hp.size, fun k hk => hp.fr k hk fun id hid => by rw [hb.2] at hid; cases hid⟩⟩
/-- The same by two rows of values, which the kernel compares. -/
def Out.two (V : Value) (out : Out) : Two := match out.value with | some v => ([v], [V]) | none => ([], [undef])
theorem eng_two {P : Program} {C : Cfg P} (hf : FactsOk C.facts) {n : Nat} {f : FuncId} {args : List RV} {V : Value} (hids : args.all (fun r => r.ids.isEmpty) = true)
    (h : (evCall algT C n f args [] 0 (Out.two V)).1 = (evCall algT C n f args [] 0 (Out.two V)).2) (w : World) :
    Calls P f (args.map (RV.den env0)).toArray w fun en w' => en = .returned V ∧ Below w.heap.size w w' := by
  refine eng_value hf hids (sim_call n _ _ _ _ _ _ (fun out ho => ?_) h) w
  unfold Out.two at ho
  split at ho
  · rename_i v hv
    simp only [Good, List.cons.injEq, and_true] at ho
    rw [hv, ho]
  · cases ho
def noFacts : Nat → Option (Bool × Bool) := fun _ => none
theorem noFacts_ok : FactsOk noFacts := fun _ _ _ h => by cases h
end Go.Proofs.Ytaikocplcblnkab
