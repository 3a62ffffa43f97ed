/- A symbolic way through the code of a call: the way is the code's. No condition. -/
import Derived.Test.YthgneojhhocflaaEngL
set_option linter.unusedVariables false
namespace Go.Proofs.Ythgneojhhocflaa
open Go.RowKit

def FactsOk (facts : Nat → Option (Bool × Bool)) : Prop := ∀ k b d, facts k = some (b, d) → b = d
def CallsOk (P : Program) (call : CallF Prop) : Prop := ∀ f args hp nx (K : Out → Prop), Names args hp nx → call f args hp nx K → ∃ out, CallOk P f args hp nx out ∧ K out
theorem settle_ok {facts : Nat → Option (Bool × Bool)} (hf : FactsOk facts) {nx : Nat} {b : Bool} {K : Prop} (h : settle algP facts nx b K) : b = true ∧ K := by
  unfold settle at h
  split at h
  · rename_i b' hb
    obtain ⟨h1, h2⟩ := h
    rw [hf _ _ _ hb] at h1
    simp only [Item.v.injEq, Value.bool.injEq] at h1
    exact ⟨h1, h2⟩
  · exact h
theorem asks_ok {P : Program} {o : Oper} {get : Operand → RV} {hp : Hp} {nx : Nat} {b : Bool} {out : Out} (hwf : WfOp get o hp nx) (h : asks P o get hp nx = some (b, out)) (hb : b = true) : OpOk P o get hp nx out := by
  unfold asks at h
  split at h
  · rename_i ho; exact opIndexE_ok hwf ho h hb
  · rename_i ho; exact opSliceE_ok ho h hb
  · rename_i ho; exact opMake_ok ho h hb
  · rename_i ho; exact opConv_ok ho h hb
  · exact opStr_ok h hb
  · exact opDiv_ok h hb
  · exact opDiv_ok h hb
  · exact opShift_ok h hb
  · exact opShift_ok h hb
  · rename_i ho; exact opNilS_ok ho h hb
  · rename_i ho; exact opNilS_ok ho h hb
  · exact opStr_ok h hb
  · rename_i c ho
    split at h
    · rename_i x y t t' h1 h2 h3
      cases hbq : Nat.beq t t' with
      | false => rw [hbq] at h; cases h
      | true =>
        rw [hbq] at h
        obtain rfl := Nat.eq_of_beq_eq_true hbq
        exact opAppend_ok ho h1 h2 h3 h hb
    · cases h
  · cases h
theorem more_ok {P : Program} {o : Oper} {get : Operand → RV} {hp : Hp} {nx : Nat} {out : Out} (h : more P o get hp nx = some out) : OpOk P o get hp nx out := by
  unfold more at h
  split at h
  · rename_i ho; exact opLoadE_ok ho h
  · rename_i ho; exact opStoreE_ok ho h
  · rename_i ho; exact opNil_ok ho h
  · rename_i ho; exact opSliceL_ok ho h
  · rename_i c ho
    split at h
    · rename_i x y t t' h1 h2 h3
      split at h
      · rename_i out' hn
        cases h
        exact opCopyN_ok ho h1 h2 h3 hn
      · exact opCopy_ok ho h1 h2 h3 h
    · cases h
  · cases h
theorem evSimple_ok {P : Program} {facts : Nat → Option (Bool × Bool)} (hf : FactsOk facts) {o : Oper} {get : Operand → RV} {hp : Hp} {nx : Nat} {K : Out → Prop} (hwf : WfOp get o hp nx) (h : evSimple algP P facts o get hp nx K) : ∃ out, OpOk P o get hp nx out ∧ K out := by
  unfold evSimple at h
  split at h
  · rename_i b out hout
    obtain ⟨h1, h2⟩ := settle_ok hf h
    exact ⟨out, asks_ok hwf hout h1, h2⟩
  · split at h
    · rename_i out hout; exact ⟨out, more_ok hout, h⟩
    · split at h
      · rename_i out hout
        cases hb : out.up.all (fun p => p.2.ids.all (fun i => Nat.blt i nx)) with
        | false => rw [hb] at h; exact False.elim h
        | true =>
          rw [hb] at h
          refine ⟨out, simple_ok hwf (fun id ob hl i hi => ?_) hout, h⟩
          exact blt_spec (List.all_eq_true.1 (List.all_eq_true.1 hb _ (hlook_mem hl)) i hi)
      · exact False.elim h
theorem eqSym_self (P : Program) : ∀ d, (∀ t x y b, x = y → eqSym P d t x y = some b → b = true) ∧ (∀ xs fs b, eqFsSym P d xs xs fs = some b → b = true) ∧ (∀ e xs s n i b, eqArrSym P d e xs xs s n i = some b → b = true) := by
  intro d
  induction d with
  | zero => exact ⟨fun _ _ _ _ _ h => by simp [eqSym] at h, fun _ _ _ h => by simp [eqFsSym] at h, fun _ _ _ _ _ _ h => by simp [eqArrSym] at h⟩
  | succ d ih =>
    obtain ⟨ih1, ih2, ih3⟩ := ih
    refine ⟨fun t x y b hxy h => ?_, fun xs fs b h => ?_, fun e xs s n i b h => ?_⟩
    · unfold eqSym at h
      split at h
      · simp only [Value.int.injEq] at hxy
        obtain ⟨rfl, rfl⟩ := hxy
        simp at h; exact h
      · simp only [Value.bool.injEq] at hxy
        subst hxy
        simp at h; exact h
      · simp only [Value.string.injEq] at hxy
        subst hxy
        simp at h; exact h
      · simp only [Value.agg.injEq] at hxy
        subst hxy
        cases hp : P.stoodInHeld t with
        | true => rw [hp] at h; simp at h
        | false => rw [hp] at h; exact ih2 _ _ _ h
      · simp only [Value.agg.injEq] at hxy
        subst hxy
        split at h
        · exact ih3 _ _ _ _ _ _ h
        · cases h
      · cases h
    · cases fs with
      | nil => simp only [eqFsSym, Option.some.injEq] at h; exact h.symm
      | cons f fs =>
        unfold eqFsSym at h
        split at h
        · split at h
          · rename_i a b1 ha hb
            rw [ha] at hb; cases hb
            split at h
            · rename_i r r' hr hr'
              cases h
              rw [ih1 _ _ _ _ rfl hr, ih2 _ _ _ hr']; rfl
            · cases h
          · cases h
        · exact ih2 _ _ _ h
    · cases n with
      | zero => simp only [eqArrSym, Option.some.injEq] at h; exact h.symm
      | succ n =>
        unfold eqArrSym at h
        split at h
        · rename_i a b1 ha hb
          rw [ha] at hb; cases hb
          split at h
          · rename_i r r' hr hr'
            cases h
            rw [ih1 _ _ _ _ rfl hr, ih3 _ _ _ _ _ _ hr']; rfl
          · cases h
        · cases h
theorem eql_self {P : Program} {t : TypeId} : ∀ {v u : Value} {b : Bool}, v = u → eqSym P 64 t v u = some b → P.eqGuardType P.depth t = false → ∀ (x y : Operand) (w : World),
    (do eqGuard .eql t x y v u; binOp .eql t v u : Sem Value).run P w = .ok (.bool true) w := by
  intro v u b hvu h hg x y w
  have hb := (eqSym_self P 64).1 t v u b hvu h
  subst hb
  have he := (eq_ok P 64).1 t v u true h 10000 (by omega) w
  unfold eqSym at h
  split at h
  · simp only [Value.int.injEq] at hvu
    obtain ⟨rfl, rfl⟩ := hvu
    simp [eqGuard, binOp, Op.intCmp]
  · rename_i hu
    simp only [Value.bool.injEq] at hvu
    subst hvu
    simp [eqGuard, run_eql_bool w t _ _ hu]
  · simp only [Value.string.injEq] at hvu
    subst hvu
    simp [eqGuard, binOp, Op.stringOp]
  · simp only [Sem.run_bind, run_eqGuard_agg w _ t x y _ _ hg, Result.andThen_ok, run_eql_struct, he]
  · simp only [Sem.run_bind, run_eqGuard_agg w _ t x y _ _ hg, Result.andThen_ok, run_eql_struct, he]
  · cases h
theorem sv_den0 {s : SV} (h : s.ids.isEmpty = true) (e : Env) : s.den e = s.den env0 := by
  simp only [List.isEmpty_iff] at h
  exact s.den_same fun id hid => by rw [h] at hid; cases hid
theorem meet_ok {facts : Nat → Option (Bool × Bool)} (hf : FactsOk facts) {nx : Nat} {b : Bool} {K : Bool → Prop} (h : meet algP facts nx b K) : K b := by
  unfold meet at h
  split at h
  · rename_i b' d hb
    obtain ⟨h1, h2⟩ := h
    simp only [Item.v.injEq, Value.bool.injEq] at h1
    rw [h1, hf _ _ _ hb]; exact h2
  · cases b with
    | true => exact h.1 rfl
    | false => exact h.2 rfl
theorem evEq_ok {P : Program} {facts : Nat → Option (Bool × Bool)} (hf : FactsOk facts) {o : Oper} {get : Operand → RV} {hp : Hp} {nx : Nat} {t yt : TypeId} {x y : Operand} {K : Out → Prop} (ho : o.op = .binOp .eql t x y yt) (h : evEq algP P facts o get hp nx t x y K) : ∃ out, OpOk P o get hp nx out ∧ K out := by
  unfold evEq at h
  split at h
  · rename_i b d' hgx hgy
    have h := meet_ok hf h
    split at h
    · rename_i hu
      refine ⟨_, fun e a w hx hs K0 Q hK => wp_value (v := .bool (b == d')) (w' := w) ?_ ?_, h⟩
      · have hx1 := hx x (by rw [ho]; simp [Op.operands])
        have hx2 := hx y (by rw [ho]; simp [Op.operands])
        rw [hgx] at hx1
        rw [hgy] at hx2
        have hx1' : a.eval x = .bool b := hx1
        have hx2' : a.eval y = .bool d' := hx2
        simp only [execOp, ho, hx1', hx2', Sem.run_bind]
        simp [eqGuard, run_eql_bool w t b d' hu]
      · exact hK e w (PostOp.none e _ nx _ _ w)
    · exact False.elim h
  · rename_i d' b hgx hgy
    have h := meet_ok hf h
    split at h
    · rename_i hu
      refine ⟨_, fun e a w hx hs K0 Q hK => wp_value (v := .bool (d' == b)) (w' := w) ?_ ?_, h⟩
      · have hx1 := hx x (by rw [ho]; simp [Op.operands])
        have hx2 := hx y (by rw [ho]; simp [Op.operands])
        rw [hgx] at hx1
        rw [hgy] at hx2
        have hx1' : a.eval x = .bool d' := hx1
        have hx2' : a.eval y = .bool b := hx2
        simp only [execOp, ho, hx1', hx2', Sem.run_bind]
        simp [eqGuard, run_eql_bool w t d' b hu]
      · exact hK e w (PostOp.none e _ nx _ _ w)
    · exact False.elim h
  · rename_i s s' hne hne2 hgx hgy
    cases hb : (s.ids.isEmpty && s'.ids.isEmpty && !P.eqGuardType P.depth t) with
    | false => rw [hb] at h; exact False.elim h
    | true =>
      rw [hb] at h
      simp only [Bool.and_eq_true, Bool.not_eq_true'] at hb
      obtain ⟨⟨hb1, hb2⟩, hb3⟩ := hb
      simp only [cond_true] at h
      split at h
      · rename_i b hbb
        obtain ⟨heq0, hK⟩ := h
        have heq : s.den env0 = s'.den env0 := by simpa using heq0
        refine ⟨_, OpOk.val fun e a w hx hs => ?_, hK⟩
        have hx1 := hx x (by rw [ho]; simp [Op.operands])
        have hx2 := hx y (by rw [ho]; simp [Op.operands])
        rw [hgx] at hx1
        rw [hgy] at hx2
        simp only [RV.den] at hx1 hx2
        rw [sv_den0 hb1] at hx1
        rw [sv_den0 hb2, ← heq] at hx2
        have := eql_self rfl hbb hb3 x y w
        simp only [execOp, ho, hx1, hx2, Sem.run_bind] at this ⊢
        rw [this]
        rfl
      · exact False.elim h
  · exact False.elim h
theorem run_call {P : Program} {g : FuncId} (hg : goesIn P g = true) (args : Array Value) (w : World) : (callFunc g args).run P w = .ok (.enter g args) w := by
  unfold goesIn at hg
  split at hg
  · rename_i fn hfn
    simp only [Bool.and_eq_true, Bool.not_eq_true'] at hg
    obtain ⟨h1, h2⟩ := hg
    simp only [callFunc, Sem.run_bind, run_program, Result.andThen_ok, hfn, h1, h2, Bool.false_eq_true, if_false, Sem.run_pure]
  · cases hg
theorem bmCV_den (e : Env) (p : BV) : (bmCV p).den e = bmDen e p := by cases p <;> rfl
theorem callee_ok {P : Program} {o : Oper} {get : Operand → RV} {hp : Hp} {nx : Nat} {c : Call} {g : FuncId} {fs : List RV} {caps : List (Nat × Nat)} {out : Out} (ho : o.op = .call c) (hcal : calleeOf get c = some (g, fs, caps)) (hg : goesIn P g = true)
    (h : CallOk P g (fs ++ c.args.toList.map get ++ caps.map ptrRV) hp nx out) : OpOk P o get hp nx out := by
  unfold calleeOf at hcal
  split at hcal
  · rename_i f hf
    split at hcal
    · rename_i g' caps' hget
      cases hcal
      intro e a w hx hsat K Q hK
      have hop : o.op.operands = #[f] ++ c.args := by rw [ho]; simp [Op.operands, Call.operands, hf]
      have h1 : a.eval f = .func (.func g) #[] (caps.map e.ptr).toArray := by
        rw [hx f (by rw [hop]; simp), hget]; rfl
      have h2 : c.args.map a.eval = (c.args.toList.map fun x => (get x).den e).toArray := by
        apply Array.ext'
        simp only [Array.toList_map]
        exact List.map_congr_left fun x hx' => hx x (by rw [hop]; simp; exact .inr (by simpa using hx'))
      have hrun : (execOp a.eval o).run P w = .ok (.enter g (([] ++ c.args.toList.map get ++ caps.map ptrRV).map (RV.den e)).toArray) w := by
        simp only [execOp, ho, resolve, hf, h1, Deferred.ofValue, Sem.run_bind, Sem.run_pure, Result.andThen_ok, invoke]
        rw [run_call hg, h2]
        congr 2
        apply Array.ext'
        simp [Function.comp_def, ptrRV, RV.den, SV.den, CV.den, Env.ptr]
      unfold Oper.wp
      rw [hrun]
      refine (h e w hsat).mono fun en w' ⟨e', hen, hp'⟩ => ?_
      subst hen
      exact hK e' w' hp'
    · rename_i g' cs hget
      cases hcal
      intro e a w hx hsat K Q hK
      have hop : o.op.operands = #[f] ++ c.args := by rw [ho]; simp [Op.operands, Call.operands, hf]
      have h1 : a.eval f = .func (.func g) #[.agg (cs.map (bmDen e)).toArray] #[] := by
        rw [hx f (by rw [hop]; simp), hget]; rfl
      have h2 : c.args.map a.eval = (c.args.toList.map fun x => (get x).den e).toArray := by
        apply Array.ext'
        simp only [Array.toList_map]
        exact List.map_congr_left fun x hx' => hx x (by rw [hop]; simp; exact .inr (by simpa using hx'))
      have hrun : (execOp a.eval o).run P w = .ok (.enter g (([RV.sv (.agg (cs.map bmCV))] ++ c.args.toList.map get ++ ([] : List (Nat × Nat)).map ptrRV).map (RV.den e)).toArray) w := by
        simp only [execOp, ho, resolve, hf, h1, Deferred.ofValue, Sem.run_bind, Sem.run_pure, Result.andThen_ok, invoke]
        rw [run_call hg, h2]
        congr 2
        apply Array.ext'
        simp [Function.comp_def, RV.den, SV.den, bmCV_den]
      unfold Oper.wp
      rw [hrun]
      refine (h e w hsat).mono fun en w' ⟨e', hen, hp'⟩ => ?_
      subst hen
      exact hK e' w' hp'
    · cases hcal
  · cases hcal
theorem callee_ids {get : Operand → RV} {c : Call} {g : FuncId} {fs : List RV} {caps : List (Nat × Nat)} (hcal : calleeOf get c = some (g, fs, caps)) : ∃ f, c.callee = .value f ∧ ((get f).ids = caps.map (·.1) ∧ fs = [] ∨ caps = [] ∧ ∀ r ∈ fs, r.ids = (get f).ids) := by
  unfold calleeOf at hcal
  split at hcal
  · rename_i f hf
    split at hcal
    · rename_i g' caps' hget
      cases hcal
      exact ⟨f, hf, .inl ⟨by rw [hget]; rfl, rfl⟩⟩
    · rename_i g' cs hget
      cases hcal
      refine ⟨f, hf, .inr ⟨rfl, fun r hr => ?_⟩⟩
      simp only [List.mem_singleton] at hr
      subst hr
      rw [hget]
      simp only [RV.ids, SV.ids, CV.ids, List.flatMap_map]
      congr 1
      funext p
      cases p <;> rfl
    · cases hcal
  · cases hcal
theorem pickAlt_ok {facts : Nat → Option (Bool × Bool)} (hf : FactsOk facts) {nx : Nat} {K : Out → Prop} : ∀ {l : List (Bool × Out)}, pickAlt algP facts nx K l → ∃ p ∈ l, p.1 = true ∧ K p.2 := by
  intro l
  induction l with
  | nil => intro h; exact False.elim h
  | cons p r ih =>
    intro h
    cases r with
    | nil =>
      obtain ⟨h1, h2⟩ := settle_ok hf h
      exact ⟨p, List.mem_cons_self, h1, h2⟩
    | cons q r =>
      have h1 := meet_ok hf h
      cases hb : p.1 with
      | true => rw [hb] at h1; exact ⟨p, List.mem_cons_self, hb, h1⟩
      | false =>
        rw [hb] at h1
        obtain ⟨p', g1, g2⟩ := ih h1
        exact ⟨p', List.mem_cons_of_mem _ g1, g2⟩
theorem evOp_ok {P : Program} {call : CallF Prop} {am : Mode} {facts : Nat → Option (Bool × Bool)} (hf : FactsOk facts) (hcall : CallsOk P call) {o : Oper} {get : Operand → RV} {hp : Hp} {nx : Nat} {K : Out → Prop} (hwf : WfOp get o hp nx) (h : evOp algP P facts call am o get hp nx K) : ∃ out, OpOk P o get hp nx out ∧ K out := by
  unfold evOp at h
  split at h
  · rename_i c ho
    split at h
    · rename_i g fs caps hcal
      cases hg : goesIn P g with
      | false => rw [hg] at h; exact False.elim h
      | true =>
        rw [hg] at h
        obtain ⟨f, hf, hids⟩ := callee_ids hcal
        have hop : o.op.operands = #[f] ++ c.args := by rw [ho]; simp [Op.operands, Call.operands, hf]
        have hnm : Names (fs ++ c.args.toList.map get ++ caps.map ptrRV) hp nx := by
          refine ⟨fun r hr i hi => ?_, hwf.hp⟩
          rcases List.mem_append.1 hr with hr | hr
          rcases List.mem_append.1 hr with hr | hr
          · rcases hids with ⟨_, h0⟩ | ⟨_, h0⟩
            · subst h0; cases hr
            · exact hwf.get f (by rw [hop]; simp) _ (by rw [← h0 r hr]; exact hi)
          · obtain ⟨x, hx, rfl⟩ := List.mem_map.1 hr
            exact hwf.get x (by rw [hop]; simp; exact .inr (by simpa using hx)) i hi
          · obtain ⟨p, hp', rfl⟩ := List.mem_map.1 hr
            simp only [ptrRV, RV.ids, SV.ids, CV.ids, List.mem_singleton] at hi
            subst hi
            rcases hids with ⟨hids, _⟩ | ⟨h0, _⟩
            · exact hwf.get f (by rw [hop]; simp) _ (by rw [hids]; exact List.mem_map.2 ⟨p, hp', rfl⟩)
            · subst h0; cases hp'
        obtain ⟨out, hout, hK⟩ := hcall _ _ _ _ _ hnm h
        exact ⟨out, callee_ok ho hcal hg hout, hK⟩
    · exact evSimple_ok hf hwf h
  · rename_i ho
    cases hm : am.am with
    | true => rw [hm] at h; exact evEq_ok hf ho h
    | false => rw [hm] at h; exact evSimple_ok hf hwf h
  · rename_i ho
    cases hm : am.rows with
    | true =>
      rw [hm] at h
      simp only [cond_true] at h
      split at h
      · rename_i out hout
        exact ⟨out, opBuildRow_ok hwf ho hout, h⟩
      · exact evSimple_ok hf hwf h
    | false => rw [hm] at h; exact evSimple_ok hf hwf h
  · cases hm : am.rows with
    | true =>
      rw [hm] at h
      simp only [cond_true] at h
      split at h
      · rename_i l hl
        obtain ⟨p, hp, h1, h2⟩ := pickAlt_ok hf h
        exact ⟨p.2, idxOpen_ok hl p hp h1, h2⟩
      · exact evSimple_ok hf hwf h
    | false => rw [hm] at h; exact evSimple_ok hf hwf h
theorem decideRV_ok {facts : Nat → Option (Bool × Bool)} (hf : FactsOk facts) {g : Bool} {nx : Nat} {v : RV} {K : RV → Nat → Prop} (h : decideRV algP facts g nx v K) : ∃ v' nx', (∀ e, v'.den e = v.den e) ∧ v'.ids = v.ids ∧ nx ≤ nx' ∧ K v' nx' := by
  unfold decideRV at h
  split at h
  · rename_i b
    exact ⟨knownB b, nx + 1, fun _ => rfl, rfl, Nat.le_succ _, meet_ok hf h⟩
  · exact ⟨v, nx, fun _ => rfl, rfl, Nat.le_refl _, h⟩
theorem putL_none (fr : List RV) (v : RV) : putL fr none v = fr := rfl
theorem evOps_ok {P : Program} {call : CallF Prop} {am : Mode} {facts : Nat → Option (Bool × Bool)} (hf : FactsOk facts) (hcall : CallsOk P call) {ops : Array Oper} {fr0 : List RV} {hp0 : Hp} {nx0 : Nat} (hn : Names fr0 hp0 nx0) :
    ∀ (l : List Oper) (trs : List Tr) (K : List RV → Hp → Nat → List Tr → Prop), (∀ j o, l[j]? = some o → ops[trs.length + j]? = some o) → TrsOk P ops fr0 hp0 nx0 trs →
      evOps algP P facts call am ops l (frT fr0 trs) (hpT hp0 trs) (nxT nx0 trs) trs K → ∃ trs', trs'.length = trs.length + l.length ∧ TrsOk P ops fr0 hp0 nx0 trs' ∧ K (frT fr0 trs') (hpT hp0 trs') (nxT nx0 trs') trs' := by
  intro l
  induction l with
  | nil => intro trs K _ htr h; exact ⟨trs, rfl, htr, h⟩
  | cons o rest ih =>
    intro trs K hl htr h
    have hnm := htr.names hn
    have ho : ops[trs.length]? = some o := by simpa using hl 0 o rfl
    have hnext : ∀ t : Tr, ∀ j o', rest[j]? = some o' → ops[(t :: trs).length + j]? = some o' := by
      intro t j o' hj
      have := hl (j + 1) o' (by simpa using hj)
      simpa [Nat.add_assoc, Nat.add_comm 1 j] using this
    have hlen : ∀ (t : Tr) (n : Nat), n = (t :: trs).length + rest.length → n = trs.length + (o :: rest).length := by
      intro t n h; simp only [List.length_cons] at h ⊢; omega
    have hbound : ∀ d n, boundOk d n = true → ∀ x, d = some x → x < n := by
      intro d n h x hx
      subst hx
      exact blt_spec h
    -- an operation that is done
    have run : ∀ (R : List Nat), GuardIs ops o (frT fr0 trs) true → liveOps (frT fr0 trs) o = true → (evOp algP P facts call am o (opnd (frT fr0 trs)) (restrict (hpT hp0 trs) R) (nxT nx0 trs) fun out =>
        bif okOut (restrict (hpT hp0 trs) R) (nxT nx0 trs) out.v out.up out.nx out.W && boundOk o.dst (frT fr0 trs).length then
          decideRV algP facts (isGuard ops.toList trs.length) out.nx out.v fun v nx' =>
            evOps algP P facts call am ops rest (putL (frT fr0 trs) o.dst v) (out.up ++ hpT hp0 trs) nx' (⟨o.dst, v, out.up, out.W, R, nxT nx0 trs, nx', looksOf ops o⟩ :: trs) K
        else algP.fail) → ∃ trs', trs'.length = trs.length + (o :: rest).length ∧ TrsOk P ops fr0 hp0 nx0 trs' ∧ K (frT fr0 trs') (hpT hp0 trs') (nxT nx0 trs') trs' := by
      intro R hg hlv hrun
      have hlive : ∀ x ∈ o.op.operands, (opnd (frT fr0 trs) x).isDead = false := fun x hx => by
        have := List.all_eq_true.1 hlv x (by simpa using hx)
        simpa using this
      have hids : ∀ x ∈ o.op.operands, ∀ id ∈ (opnd (frT fr0 trs) x).ids, id < nxT nx0 trs := by
        intro x _ id hid
        cases x with
        | tmp s => exact getD_ids hnm.1.fr hid
        | const v => simp only [opnd, RV.ids_ofVal] at hid; cases hid
        | global g => simp [opnd, RV.ids, SV.ids, CV.ids] at hid
        | func f => simp [opnd, RV.ids, SV.ids, CV.ids] at hid
      obtain ⟨out, hok, hK⟩ := evOp_ok hf hcall ⟨hids, fun id ob h => hnm.1.hp id ob (hlook_restrict h).2⟩ hrun
      cases hb : (okOut (restrict (hpT hp0 trs) R) (nxT nx0 trs) out.v out.up out.nx out.W && boundOk o.dst (frT fr0 trs).length) with
      | false => rw [hb] at hK; exact False.elim hK
      | true =>
        rw [hb] at hK
        simp only [cond_true] at hK
        simp only [Bool.and_eq_true] at hb
        obtain ⟨v, nx', hv, hvi, hnx', hK⟩ := decideRV_ok hf hK
        have hok' : okOut (restrict (hpT hp0 trs) R) (nxT nx0 trs) v out.up nx' out.W = true := by
          have := okOut_mono hnx' hb.1
          unfold okOut at this ⊢
          rw [hvi]; exact this
        let t : Tr := ⟨o.dst, v, out.up, out.W, R, nxT nx0 trs, nx', looksOf ops o⟩
        obtain ⟨trs', h1, h2, h3⟩ := ih (t :: trs) K (hnext t) ⟨⟨o, ho, ⟨rfl, rfl, rfl, hbound _ _ hb.2, hok', .inl ⟨hg, hlive, out, fun _ _ => hok, hv, rfl, hnx', rfl⟩⟩⟩, htr⟩ hK
        exact ⟨trs', hlen t _ h1, h2, h3⟩
    simp only [evOps, fL_eq fN fN_eq, fL_eq fE fE_eq, fL_eq fId fun _ _ => rfl, fRV_eq, fN_eq] at h
    have run' : ∀ (R : List Nat), GuardIs ops o (frT fr0 trs) true → (bif liveOps (frT fr0 trs) o then (evOp algP P facts call am o (opnd (frT fr0 trs)) (restrict (hpT hp0 trs) R) (nxT nx0 trs) fun out =>
        bif okOut (restrict (hpT hp0 trs) R) (nxT nx0 trs) out.v out.up out.nx out.W && boundOk o.dst (frT fr0 trs).length then
          decideRV algP facts (isGuard ops.toList trs.length) out.nx out.v fun v nx' =>
            evOps algP P facts call am ops rest (putL (frT fr0 trs) o.dst v) (out.up ++ hpT hp0 trs) nx' (⟨o.dst, v, out.up, out.W, R, nxT nx0 trs, nx', looksOf ops o⟩ :: trs) K
        else algP.fail) else algP.fail) → ∃ trs', trs'.length = trs.length + (o :: rest).length ∧ TrsOk P ops fr0 hp0 nx0 trs' ∧ K (frT fr0 trs') (hpT hp0 trs') (nxT nx0 trs') trs' := by
      intro R hg hrun
      cases hlv : liveOps (frT fr0 trs) o with
      | false => rw [hlv] at hrun; exact False.elim hrun
      | true => rw [hlv] at hrun; exact run R hg hlv hrun
    split at h
    · rename_i hgd
      exact run' _ (by unfold GuardIs; rw [hgd]) h
    · rename_i g want hgd
      split at h
      · rename_i s hs
        split at h
        · rename_i k b hfr
          cases hbw : (b == want) with
          | true =>
            rw [hbw] at h
            exact run' _ (by unfold GuardIs; rw [hgd]; exact .inl ⟨s, b, k, hs, hfr, hbw.symm⟩) h
          | false =>
            rw [hbw] at h
            simp only [cond_false] at h
            cases hb : boundOk o.dst (frT fr0 trs).length with
            | false => rw [hb] at h; exact False.elim h
            | true =>
              rw [hb] at h
              let t : Tr := ⟨o.dst, RV.und, [], [], [], nxT nx0 trs, nxT nx0 trs, looksOf ops o⟩
              have g1 : okOut (restrict (hpT hp0 trs) t.R) (nxT nx0 trs) t.v t.up t.nx1 t.W = true := by simp [t, okOut, RV.und, RV.ids, SV.ids, CV.ids]
              have g2 : GuardIs ops o (frT fr0 trs) false := by unfold GuardIs; rw [hgd]; exact .inl ⟨s, b, k, hs, hfr, hbw.symm⟩
              obtain ⟨trs', h1, h2, h3⟩ := ih (t :: trs) K (hnext t) ⟨⟨o, ho, ⟨rfl, rfl, rfl, hbound _ _ hb, g1, .inr ⟨g2, rfl, rfl, rfl, rfl⟩⟩⟩, htr⟩ h
              exact ⟨trs', hlen t _ h1, h2, h3⟩
        · rename_i hfr
          cases hb : boundOk o.dst (frT fr0 trs).length with
          | false => rw [hb] at h; exact False.elim h
          | true =>
            rw [hb] at h
            let t : Tr := ⟨o.dst, RV.und, [], [], [], nxT nx0 trs, nxT nx0 trs, looksOf ops o⟩
            have g1 : okOut (restrict (hpT hp0 trs) t.R) (nxT nx0 trs) t.v t.up t.nx1 t.W = true := by simp [t, okOut, RV.und, RV.ids, SV.ids, CV.ids]
            have g2 : GuardIs ops o (frT fr0 trs) false := by unfold GuardIs; rw [hgd]; exact .inr ⟨s, hs, hfr, rfl⟩
            obtain ⟨trs', h1, h2, h3⟩ := ih (t :: trs) K (hnext t) ⟨⟨o, ho, ⟨rfl, rfl, rfl, hbound _ _ hb, g1, .inr ⟨g2, rfl, rfl, rfl, rfl⟩⟩⟩, htr⟩ h
            exact ⟨trs', hlen t _ h1, h2, h3⟩
        · exact False.elim h
      · exact False.elim h
theorem Stands.dec {n0 base : Nat} {H0 : Nat → Option HO} {st : St} {e : Env} {a : Act} {w : World} {c : Operand} {k b : Bool} (h : Stands n0 base H0 st e a w) (hc : opnd st.fr c = .sv (.one (.val k (.bool b)))) : Stands n0 base H0 (decSt st c b) e a w := by
  cases c with
  | tmp s =>
    refine ⟨by simp [decSt, h.size], fun i r hr => ?_, h.defers, h.sat, h.own, h.foot, h.old⟩
    simp only [decSt, List.getElem?_set] at hr
    by_cases hi : s = i
    · subst hi
      simp only [if_true] at hr
      split at hr
      · rename_i hlt
        cases hr
        simp only [opnd, List.getD_eq_getElem?_getD, List.getElem?_eq_getElem hlt, Option.getD_some] at hc
        have := (h.fr s _ (List.getElem?_eq_getElem hlt)).resolve_left (by rw [hc]; simp [RV.isDead])
        exact .inr (by rw [this, hc]; rfl)
      · cases hr
    · rw [if_neg hi] at hr
      exact h.fr i r hr
  | const v => exact ⟨h.size, h.fr, h.defers, h.sat, h.own, h.foot, h.old⟩
  | global g => exact ⟨h.size, h.fr, h.defers, h.sat, h.own, h.foot, h.old⟩
  | func f => exact ⟨h.size, h.fr, h.defers, h.sat, h.own, h.foot, h.old⟩
theorem decSt_names {st : St} {c : Operand} {b : Bool} (h : Names st.fr st.hp st.nx) : Names (decSt st c b).fr (decSt st c b).hp (decSt st c b).nx := by
  have h2 : ∀ id o, hlook st.hp id = some o → id < st.nx + 1 ∧ ∀ i ∈ o.ids, i < st.nx + 1 := fun id o ho => ⟨Nat.lt_succ_of_lt (h.hp id o ho).1, fun i hi => Nat.lt_succ_of_lt ((h.hp id o ho).2 i hi)⟩
  have h1 : ∀ r ∈ st.fr, ∀ i ∈ r.ids, i < st.nx + 1 := fun r hr i hi => Nat.lt_succ_of_lt (h.fr r hr i hi)
  cases c with
  | tmp s =>
    refine ⟨fun r hr i hi => ?_, h2⟩
    rcases mem_set hr with rfl | hr
    · simp [knownB, RV.ids, SV.ids, CV.ids] at hi
    · exact h1 r hr i hi
  | _ => exact ⟨h1, h2⟩
theorem decSt_nx {st : St} {c : Operand} {b : Bool} : (decSt st c b).nx = st.nx + 1 := by cases c <;> rfl
theorem decSt_W {st : St} {c : Operand} {b : Bool} : (decSt st c b).W = st.W := by cases c <;> rfl
theorem CodeTo.dec {P : Program} {n0 : Nat} {code : Code} {st : St} {R : Ex → St → Prop} {c : Operand} {k b : Bool} (hc : opnd st.fr c = .sv (.one (.val k (.bool b)))) (h : CodeTo P n0 code (decSt st c b) R) : CodeTo P n0 code st R := by
  intro hn hn0 base H0 e a w h2 hs Q hQ
  refine h (decSt_names hn) (by rw [decSt_nx]; omega) base H0 e a w h2 (hs.dec hc) Q fun ex st' e' a' w' hR hn' hnx hW hm hs' => ?_
  exact hQ ex st' e' a' w' hR hn' (by rw [decSt_nx] at hnx; omega) (fun id hid hlt => hW id (by rw [decSt_W]; exact hid) hlt) ⟨hm.agree, hm.os, hm.tape, hm.output, hm.size, hm.fr⟩ hs'
/-- One place alone. -/
def At1 (ex : Ex) (s : St) : Ex → St → Prop := fun ex' s' => ex' = ex ∧ s' = s
theorem evLoop_ok {P : Program} {n0 : Nat} {c : Code} {body : St → (Ex → St → Prop) → Prop} (hb : ∀ st (K : Ex → St → Prop), Names st.fr st.hp st.nx → body st K → ∃ ex s, CodeTo P n0 c st (At1 ex s) ∧ (Names s.fr s.hp s.nx ∧ st.nx ≤ s.nx) ∧ K ex s) :
    ∀ (n : Nat) (st : St) (K : Ex → St → Prop), Names st.fr st.hp st.nx → evLoop algP body n st K → ∃ ex s, RoundsTo P n0 c n st (At1 ex s) ∧ (Names s.fr s.hp s.nx ∧ st.nx ≤ s.nx) ∧ K ex s := by
  intro n
  induction n with
  | zero => intro st K _ h; exact False.elim h
  | succ n ih =>
    intro st K hn h
    obtain ⟨ex, s, h1, h2, h3⟩ := hb st _ hn h
    cases ex with
    | normal =>
      obtain ⟨ex', s', h4, h5, h6⟩ := ih s K h2.1 h3
      exact ⟨ex', s', .round h1 (fun s0 hs0 => by rw [hs0.2]; exact h4) (fun ex0 s0 hne h0 => absurd h0.1 hne), ⟨h5.1, Nat.le_trans h2.2 h5.2⟩, h6⟩
    | exit i => exact ⟨_, s, .round h1 (fun s0 hs0 => by cases hs0.1) (fun _ _ _ h0 => h0), h2, h3⟩
    | ret => exact ⟨_, s, .round h1 (fun s0 hs0 => by cases hs0.1) (fun _ _ _ h0 => h0), h2, h3⟩
/-- From a place that is S under other names. -/
theorem CodeTo.from {P : Program} {n0 : Nat} {c : Code} {rn : List (Nat × Option Nat)} {S st : St} {R : Ex → St → Prop} {p : List HO × List HO} (hb : landB n0 rn S st = true) (hh : landHp n0 rn st.hp S.hp = some p)
    (hfr : (landFr n0 rn S.fr st.fr).1 = (landFr n0 rn S.fr st.fr).2) (hhp : p.1 = p.2) (hnx : st.nx ≤ S.nx) (hW : ∀ i ∈ st.W, i < n0 → i ∈ S.W) (h : CodeTo P n0 c S R) : CodeTo P n0 c st R := by
  intro hn hn0 base H0 e a w h2 hs Q hQ
  obtain ⟨hnm, e'', h3, h4, h5⟩ := land_ok (e := e) hb hh hfr hhp hs (fun id _ => .refl _ _)
  refine h hnm (Nat.le_trans hn0 hnx) base H0 e'' a w h2 h5 Q fun ex st' e' a' w' hR hn' hnx' hW' hm hs' => ?_
  refine hQ ex st' e' a' w' hR hn' (Nat.le_trans hnx hnx') (fun id hid hlt => hW' id (hW id hid hlt) hlt) ⟨fun id hid => ?_, hm.os, hm.tape, hm.output, hm.size, fun k hk hne => hm.fr k hk fun hw => hne (hw.same (fun id hid => (h3 id hid).symm) fun _ h _ => h)⟩ hs'
  have g1 : e.same e'' id := by
    rcases hid with hid | hid
    · exact h3 id hid
    · exact h4 id (Nat.le_trans hnx' hid)
  exact g1.trans (hm.agree id hid)
/-- To a place that is S under other names. -/
theorem CodeTo.land {P : Program} {n0 : Nat} {c : Code} {S st : St} {R R' : Ex → St → Prop} (h : CodeTo P n0 c st R) (hnx : st.nx ≤ S.nx) (hW : ∀ i ∈ st.W, i < n0 → i ∈ S.W)
    (hl : ∀ ex s, R ex s → R' ex S ∧ ∃ rn p, landB n0 rn S s = true ∧ landHp n0 rn s.hp S.hp = some p ∧ (landFr n0 rn S.fr s.fr).1 = (landFr n0 rn S.fr s.fr).2 ∧ p.1 = p.2) : CodeTo P n0 c st R' := by
  intro hn hn0 base H0 e a w h2 hs Q hQ
  refine h hn hn0 base H0 e a w h2 hs Q fun ex s e' a' w' hR hn' hnx' hW' hm hs' => ?_
  obtain ⟨hR', rn, p, g1, g2, g3, g4⟩ := hl ex s hR
  obtain ⟨hnm, e'', h3, h4, h5⟩ := land_ok (e := e) g1 g2 g3 g4 hs' (fun id hid => hm.agree id (.inl hid))
  refine hQ ex S e'' a' w' hR' hnm hnx hW ⟨fun id hid => ?_, hm.os, hm.tape, hm.output, hm.size, fun k hk hne => hm.fr k hk fun hw => hne (hw.same (fun _ _ => .refl _ _) fun j hj hlt => ?_)⟩ h5
  · rcases hid with hid | hid
    · exact (hm.agree id (.inl hid)).trans (h3 id hid)
    · exact h4 id hid
  · simp only [landB, Bool.and_eq_true, List.all_eq_true, Bool.or_eq_true] at g1
    rcases g1.1.2 j hj with h' | h'
    · have := Nat.le_of_ble_eq_true h'; omega
    · obtain ⟨q, hq, hbq⟩ := List.any_eq_true.1 h'; rw [Nat.eq_of_beq_eq_true hbq]; exact hq
theorem namesB_spec {s : St} (h : namesB s = true) : Names s.fr s.hp s.nx := by
  simp only [namesB, Bool.and_eq_true, List.all_eq_true] at h
  refine ⟨fun r hr i hi => blt_spec (h.1 r hr i hi), fun id o ho => ?_⟩
  have := h.2 _ (hlook_mem ho)
  exact ⟨blt_spec this.1, fun i hi => blt_spec (this.2 i hi)⟩
theorem evLR_ok {facts : Nat → Option (Bool × Bool)} (hf : FactsOk facts) {m : Nat} : ∀ (r : LR) (n : Nat) (K : Ex → St → Prop), evLR algP facts m r n K → ∃ ex s, (∀ ex' s', r.has ex' s' → At1 ex s ex' s') ∧ (Names s.fr s.hp s.nx ∧ m ≤ s.nx) ∧ K ex s := by
  intro r
  induction r with
  | one ex s =>
    intro n K h
    simp only [evLR] at h
    cases hb : (namesB s && Nat.ble m s.nx) with
    | false => rw [hb] at h; exact False.elim h
    | true =>
      rw [hb] at h
      simp only [Bool.and_eq_true] at hb
      exact ⟨ex, s, fun _ _ hh => hh, ⟨namesB_spec hb.1, Nat.le_of_ble_eq_true hb.2⟩, h⟩
  | br b x y ihx ihy =>
    intro n K h
    have h := meet_ok hf h
    cases b with
    | true =>
      obtain ⟨ex, s, h1, h2, h3⟩ := ihx _ K h
      exact ⟨ex, s, fun ex' s' hh => h1 ex' s' (by simpa [LR.has] using hh), h2, h3⟩
    | false =>
      obtain ⟨ex, s, h1, h2, h3⟩ := ihy _ K h
      exact ⟨ex, s, fun ex' s' hh => h1 ex' s' (by simpa [LR.has] using hh), h2, h3⟩
theorem eqL_ok : ∀ {l r : List Item} {K : Prop}, eqL algP l r K → l = r ∧ K := by
  intro l
  induction l with
  | nil => intro r K h; cases r with
    | nil => exact ⟨rfl, h⟩
    | cons y r => exact False.elim h
  | cons x l ih => intro r K h; cases r with
    | nil => exact False.elim h
    | cons y r =>
      obtain ⟨h1, h2⟩ := h
      obtain ⟨h3, h4⟩ := ih h2
      exact ⟨by rw [h1, h3], h4⟩
theorem obO_ok {nx : Nat} {o : Option Bool} {K : Prop} (h : obO algP nx o K) : (∀ b, o = some b → b = true) ∧ K := by
  cases o with
  | none => exact ⟨fun b hb => (by cases hb), h⟩
  | some b => exact ⟨fun b' hb => (by cases hb; exact h.1), h.2⟩
/-- Both ways of a test lead to where they are said to meet. -/
def JnOk (P : Program) (n0 : Nat) (jn : JoinF) : Prop := ∀ c b k x y st j, opnd st.fr c = .sv (.one (.val k (.bool b))) → Names st.fr st.hp st.nx → jn c b x y st = some j → j.l = j.r → (∀ o, j.obs = some o → o = true) →
  CodeTo P n0 (.cond c x y) st (At1 .normal j.s) ∧ (Names j.s.fr j.s.hp j.s.nx ∧ st.nx ≤ j.s.nx)
theorem evCode_ok {P : Program} {call : CallF Prop} {am : Mode} {n0 : Nat} {facts : Nat → Option (Bool × Bool)} (hf : FactsOk facts) (hcall : CallsOk P call) {hook : Nat → Nat → Option (LoopCon P)} {jn : JoinF} (hj : JnOk P n0 jn) : ∀ (c : Code) (st : St) (K : Ex → St → Prop), Names st.fr st.hp st.nx → evCode algP P facts call hook jn n0 am c st K →
    ∃ ex s, CodeTo P n0 c st (At1 ex s) ∧ (Names s.fr s.hp s.nx ∧ st.nx ≤ s.nx) ∧ K ex s := by
  intro c
  induction c with
  | skip => intro st K hn h; exact ⟨_, _, .skip ⟨rfl, rfl⟩, ⟨hn, Nat.le_refl _⟩, h⟩
  | label l => intro st K hn h; exact ⟨_, _, .label ⟨rfl, rfl⟩, ⟨hn, Nat.le_refl _⟩, h⟩
  | exit id => intro st K hn h; exact ⟨_, _, .exit ⟨rfl, rfl⟩, ⟨hn, Nat.le_refl _⟩, h⟩
  | ret => intro st K hn h; exact ⟨_, _, .ret ⟨rfl, rfl⟩, ⟨hn, Nat.le_refl _⟩, h⟩
  | region id ops draw =>
    intro st K hn h
    obtain ⟨trs, h1, h2, h3⟩ := evOps_ok hf hcall hn ops.toList [] _ (fun j o hj => by simpa using hj) trivial h
    cases hb : (!draw || (P.follows .mixedOrders && edgesBack ops.toList 0 && chkAll trs (masks ops.toList []))) with
    | false => rw [hb] at h3; exact False.elim h3
    | true =>
      rw [hb] at h3
      refine ⟨_, _, .region h2 (by simpa using h1) (fun hd => ?_) ⟨rfl, rfl⟩, h2.names hn, h3⟩
      subst hd
      simp only [Bool.not_true, Bool.false_or, Bool.and_eq_true] at hb
      exact ⟨hb.1.1, hb.1.2, hb.2⟩
  | seq x y ihx ihy =>
    intro st K hn h
    obtain ⟨ex, s, h1, h2, h3⟩ := ihx st _ hn h
    cases ex with
    | normal =>
      obtain ⟨ex', s', h4, h5, h6⟩ := ihy s K h2.1 h3
      exact ⟨ex', s', .seq h1 (fun s0 hs0 => by rw [hs0.2]; exact h4) (fun ex0 s0 hne h0 => absurd h0.1 hne), ⟨h5.1, Nat.le_trans h2.2 h5.2⟩, h6⟩
    | exit i => exact ⟨_, s, .seq h1 (fun s0 hs0 => by cases hs0.1) (fun _ _ _ h0 => h0), h2, h3⟩
    | ret => exact ⟨_, s, .seq h1 (fun s0 hs0 => by cases hs0.1) (fun _ _ _ h0 => h0), h2, h3⟩
  | cond c x y ihx ihy =>
    intro st K hn h
    simp only [evCode] at h
    split at h
    · rename_i k b hc
      cases k with
      | true =>
        simp only [cond_true] at h
        cases b with
        | true => obtain ⟨ex, s, h1, h2, h3⟩ := ihx st K hn h; exact ⟨ex, s, .cond hc h1, h2, h3⟩
        | false => obtain ⟨ex, s, h1, h2, h3⟩ := ihy st K hn h; exact ⟨ex, s, .cond hc h1, h2, h3⟩
      | false =>
        simp only [cond_false] at h
        have part : meet algP facts st.nx b (fun d => bif d then evCode algP P facts call hook jn n0 am x (decSt st c true) K else evCode algP P facts call hook jn n0 am y (decSt st c false) K) →
            ∃ ex s, CodeTo P n0 (.cond c x y) st (At1 ex s) ∧ (Names s.fr s.hp s.nx ∧ st.nx ≤ s.nx) ∧ K ex s := by
          intro h
          have h := meet_ok hf h
          cases b with
          | true => obtain ⟨ex, s, h1, h2, h3⟩ := ihx _ K (decSt_names hn) h; exact ⟨ex, s, .cond hc (.dec hc h1), ⟨h2.1, by have := h2.2; rw [decSt_nx] at this; omega⟩, h3⟩
          | false => obtain ⟨ex, s, h1, h2, h3⟩ := ihy _ K (decSt_names hn) h; exact ⟨ex, s, .cond hc (.dec hc h1), ⟨h2.1, by have := h2.2; rw [decSt_nx] at this; omega⟩, h3⟩
        split at h
        · exact part h
        · split at h
          · rename_i j hjn
            obtain ⟨g1, g2⟩ := eqL_ok h
            obtain ⟨g3, g4⟩ := obO_ok g2
            simp only [fL_eq fRV fRV_eq, fL_eq fE fE_eq, fN_eq, fL_eq fN fN_eq] at g4
            obtain ⟨k1, k2⟩ := hj c b false x y st j hc hn hjn g1 g3
            exact ⟨.normal, j.s, k1, k2, g4⟩
          · exact part h
    · exact False.elim h
  | block id c ih =>
    intro st K hn h
    simp only [evCode] at h
    split at h
    · rename_i lc hlc
      cases hb : (Nat.beq lc.n0 n0 && Nat.ble st.nx lc.S.nx && st.W.all (fun i => Nat.ble n0 i || lc.S.W.any (Nat.beq i))) with
      | false => rw [hb] at h; exact False.elim h
      | true =>
        rw [hb] at h
        simp only [cond_true] at h
        simp only [Bool.and_eq_true, List.all_eq_true, Bool.or_eq_true] at hb
        obtain ⟨⟨b1, b2⟩, b3⟩ := hb
        have b1 := Nat.eq_of_beq_eq_true b1
        have b2 := Nat.le_of_ble_eq_true b2
        obtain ⟨hcode, h⟩ := h
        simp only [Item.code.injEq] at hcode
        have hW : ∀ i ∈ st.W, i < n0 → i ∈ lc.S.W := fun i hi hlt => by
          rcases b3 i hi with h' | h'
          · have := Nat.le_of_ble_eq_true h'; omega
          · obtain ⟨q, hq, hbq⟩ := List.any_eq_true.1 h'; rw [Nat.eq_of_beq_eq_true hbq]; exact hq
        unfold evLand at h
        cases hl : landB n0 lc.rn lc.S st with
        | false => rw [hl] at h; exact False.elim h
        | true =>
          rw [hl] at h
          simp only [cond_true] at h
          split at h
          · rename_i p hp
            obtain ⟨heq, h⟩ := h
            simp only [Item.st.injEq] at heq
            have main : Must lc.pre → evLR algP facts lc.S.nx lc.r (st.nx + 1) K → ∃ ex s, CodeTo P n0 (.block id c) st (At1 ex s) ∧ (Names s.fr s.hp s.nx ∧ st.nx ≤ s.nx) ∧ K ex s := by
              intro hm hk
              obtain ⟨ex, s, h1, h2, h3⟩ := evLR_ok hf _ _ K hk
              have := lc.ok hm
              rw [hcode, b1] at this
              exact ⟨ex, s, CodeTo.from hl hp heq.1 heq.2 b2 hW (this.mono h1), ⟨h2.1, Nat.le_trans b2 h2.2⟩, h3⟩
            split at h
            · rename_i b hpre
              obtain ⟨g1, g2⟩ := settle_ok hf h
              exact main (fun b' hb' => by rw [hpre] at hb'; cases hb'; exact g1) g2
            · rename_i hpre
              exact main (fun b' hb' => by rw [hpre] at hb'; cases hb') h
          · exact False.elim h
    · obtain ⟨ex, s, h1, h2, h3⟩ := ih st _ hn h
      cases ex with
      | normal => exact ⟨.normal, s, .block h1 (fun s0 h0 => h0) (fun s0 h0 => by cases h0.1) (fun i s0 _ h0 => by cases h0.1) (fun s0 h0 => by cases h0.1), h2, h3⟩
      | exit i =>
        simp only at h3
        cases hi : Nat.beq i id with
        | true =>
          rw [hi] at h3
          obtain rfl := Nat.eq_of_beq_eq_true hi
          exact ⟨.normal, s, .block h1 (fun s0 h0 => by cases h0.1) (fun s0 h0 => ⟨rfl, h0.2⟩) (fun j s0 hne h0 => by cases h0.1; exact absurd rfl hne) (fun s0 h0 => by cases h0.1), h2, h3⟩
        | false =>
          rw [hi] at h3
          have hne : i ≠ id := fun h => by rw [h, Nat.beq_refl] at hi; cases hi
          exact ⟨.exit i, s, .block h1 (fun s0 h0 => by cases h0.1) (fun s0 h0 => by cases h0.1; exact absurd rfl hne) (fun j s0 _ h0 => h0) (fun s0 h0 => by cases h0.1), h2, h3⟩
      | ret => exact ⟨.ret, s, .block h1 (fun s0 h0 => by cases h0.1) (fun s0 h0 => by cases h0.1) (fun i s0 _ h0 => by cases h0.1) (fun s0 h0 => h0), h2, h3⟩
  | loop c ih =>
    intro st K hn h
    obtain ⟨ex, s, h1, h2, h3⟩ := evLoop_ok (fun st K hn h => ih st K hn h) 300 st K hn h
    exact ⟨ex, s, .loop h1, h2, h3⟩
  | scope c ih =>
    intro st K hn h
    obtain ⟨ex, s, h1, h2, h3⟩ := ih st K hn h
    exact ⟨ex, s, .scope h1, h2, h3⟩
  | rangeFunc f p a b _ _ => intro st K _ h; exact False.elim h
  | goto l => intro st K _ h; exact False.elim h
  | refuse s => intro st K _ h; exact False.elim h
end Go.Proofs.Ythgneojhhocflaa
