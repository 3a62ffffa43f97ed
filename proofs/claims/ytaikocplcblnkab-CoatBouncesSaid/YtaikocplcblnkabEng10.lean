/- A symbolic way through the code of a call: the way is the code's. No condition. -/
import Derived.Test.YtaikocplcblnkabEng9
set_option linter.unusedVariables false
namespace Go.Proofs.Ytaikocplcblnkab
open Go.RowKit

def FactsOk (facts : Nat → Option (Bool × Bool)) : Prop := ∀ k b d, facts k = some (b, d) → b = d
def CallsOk (P : Program) (call : CallF Prop) : Prop := ∀ f args hp nx (K : Out → Prop), Names args hp nx → call f args hp nx K → ∃ out, CallOk P f args hp nx out ∧ K out
theorem blt_spec {i n : Nat} (h : Nat.blt i n = true) : i < n := Nat.le_of_ble_eq_true h
theorem evSimple_ok {P : Program} {o : Oper} {get : Operand → RV} {hp : Hp} {nx : Nat} {K : Out → Prop} (hwf : WfOp get o hp nx) (h : evSimple algP P o get hp nx K) : ∃ out, OpOk P o get hp nx out ∧ K out := by
  unfold evSimple at h
  split at h
  · rename_i out hout
    cases hb : out.up.all (fun p => p.2.ids.all (fun i => Nat.blt i nx)) with
    | false => rw [hb] at h; exact False.elim h
    | true =>
      rw [hb] at h
      refine ⟨out, simple_ok hwf (fun id ob hl i hi => ?_) hout, h⟩
      exact blt_spec (List.all_eq_true.1 (List.all_eq_true.1 hb _ (hlook_mem hl)) i hi)
  · exact False.elim h
def Env.setX (e : Env) (id b o : Nat) : Env := ⟨fun i => if i = id then b else e.ρ i, fun i => if i = id then (some ⟨b, o, none⟩, 0, 0) else e.σ i⟩
theorem rowCells_get (z : Nat → Int) : ∀ (ks : List IntKind) (j0 j : Nat), (rowCells z ks j0)[j]? = (ks[j]?).map fun k => CV.val false (.int k (z (j0 + j))) := by
  intro ks
  induction ks with
  | nil => intro j0 j; simp [rowCells]
  | cons k ks ih =>
    intro j0 j
    cases j with
    | zero => simp [rowCells]
    | succ j =>
      simp only [rowCells, List.getElem?_cons_succ, ih]
      rw [show j0 + 1 + j = j0 + (j + 1) by omega]
theorem settle_ok {facts : Nat → Option (Bool × Bool)} (hf : FactsOk facts) {nx : Nat} {p : Prop} [Decidable p] {K : Prop} (h : settle algP facts nx p K) : p ∧ K := by
  unfold settle at h
  split at h
  · rename_i b hb
    obtain ⟨h1, h2⟩ := h
    rw [hf _ _ _ hb] at h1
    simp only [Value.bool.injEq, decide_eq_true_eq] at h1
    exact ⟨h1, h2⟩
  · exact h
theorem eqSym_self (P : Program) : ∀ d, (∀ t x y b, x = y → eqSym P d t x y = some b → b = true) ∧ (∀ xs fs b, eqFsSym P d xs xs fs = some b → b = true) ∧ (∀ e xs s n i b, eqArrSym P d e xs xs s n i = some b → b = true) := by
  intro d
  induction d with
  | zero => exact ⟨fun _ _ _ _ _ h => by simp [eqSym] at h, fun _ _ _ h => by simp [eqFsSym] at h, fun _ _ _ _ _ _ h => by simp [eqArrSym] at h⟩
  | succ d ih =>
    obtain ⟨ih1, ih2, ih3⟩ := ih
    refine ⟨fun t x y b hxy h => ?_, fun xs fs b h => ?_, fun e xs s n i b h => ?_⟩
    · unfold eqSym at h
      split at h
      · simp only [Value.int.injEq] at hxy
        obtain ⟨rfl, rfl⟩ := hxy
        simp at h; exact h
      · simp only [Value.bool.injEq] at hxy
        subst hxy
        simp at h; exact h
      · simp only [Value.string.injEq] at hxy
        subst hxy
        simp at h; exact h
      · simp only [Value.agg.injEq] at hxy
        subst hxy
        cases hp : P.stoodInHeld t with
        | true => rw [hp] at h; simp at h
        | false => rw [hp] at h; exact ih2 _ _ _ h
      · simp only [Value.agg.injEq] at hxy
        subst hxy
        split at h
        · exact ih3 _ _ _ _ _ _ h
        · cases h
      · cases h
    · cases fs with
      | nil => simp only [eqFsSym, Option.some.injEq] at h; exact h.symm
      | cons f fs =>
        unfold eqFsSym at h
        split at h
        · split at h
          · rename_i a b1 ha hb
            rw [ha] at hb; cases hb
            split at h
            · rename_i r r' hr hr'
              cases h
              rw [ih1 _ _ _ _ rfl hr, ih2 _ _ _ hr']; rfl
            · cases h
          · cases h
        · exact ih2 _ _ _ h
    · cases n with
      | zero => simp only [eqArrSym, Option.some.injEq] at h; exact h.symm
      | succ n =>
        unfold eqArrSym at h
        split at h
        · rename_i a b1 ha hb
          rw [ha] at hb; cases hb
          split at h
          · rename_i r r' hr hr'
            cases h
            rw [ih1 _ _ _ _ rfl hr, ih3 _ _ _ _ _ _ hr']; rfl
          · cases h
        · cases h
theorem eql_self {P : Program} {t : TypeId} : ∀ {v u : Value} {b : Bool}, v = u → eqSym P 64 t v u = some b → P.eqGuardType P.depth t = false → ∀ (x y : Operand) (w : World),
    (do eqGuard .eql t x y v u; binOp .eql t v u : Sem Value).run P w = .ok (.bool true) w := by
  intro v u b hvu h hg x y w
  have hb := (eqSym_self P 64).1 t v u b hvu h
  subst hb
  have he := (eq_ok P 64).1 t v u true h 10000 (by omega) w
  unfold eqSym at h
  split at h
  · simp only [Value.int.injEq] at hvu
    obtain ⟨rfl, rfl⟩ := hvu
    simp [eqGuard, binOp, Op.intCmp]
  · rename_i hu
    simp only [Value.bool.injEq] at hvu
    subst hvu
    simp [eqGuard, run_eql_bool w t _ _ hu]
  · simp only [Value.string.injEq] at hvu
    subst hvu
    simp [eqGuard, binOp, Op.stringOp]
  · simp only [Sem.run_bind, run_eqGuard_agg w _ t x y _ _ hg, Result.andThen_ok, run_eql_struct, he]
  · simp only [Sem.run_bind, run_eqGuard_agg w _ t x y _ _ hg, Result.andThen_ok, run_eql_struct, he]
  · cases h
theorem sv_den0 {s : SV} (h : s.ids.isEmpty = true) (e : Env) : s.den e = s.den env0 := by
  simp only [List.isEmpty_iff] at h
  exact s.den_same fun id hid => by rw [h] at hid; cases hid
theorem meet_ok {facts : Nat → Option (Bool × Bool)} (hf : FactsOk facts) {nx : Nat} {b : Bool} {K : Bool → Prop} (h : meet algP facts nx b K) : K b := by
  unfold meet at h
  split at h
  · rename_i b' d hb
    obtain ⟨h1, h2⟩ := h
    simp only [Value.bool.injEq] at h1
    rw [h1, hf _ _ _ hb]; exact h2
  · cases b with
    | true => exact h.1 rfl
    | false => exact h.2 rfl
theorem evEq_ok {P : Program} {facts : Nat → Option (Bool × Bool)} (hf : FactsOk facts) {o : Oper} {get : Operand → RV} {hp : Hp} {nx : Nat} {t yt : TypeId} {x y : Operand} {K : Out → Prop} (ho : o.op = .binOp .eql t x y yt) (h : evEq algP P facts o get hp nx t x y K) : ∃ out, OpOk P o get hp nx out ∧ K out := by
  unfold evEq at h
  split at h
  · rename_i b d' hgx hgy
    have h := meet_ok hf h
    split at h
    · rename_i hu
      refine ⟨_, fun e a w hx hs K0 Q hK => wp_value (v := .bool (b == d')) (w' := w) ?_ ?_, h⟩
      · have hx1 := hx x (by rw [ho]; simp [Op.operands])
        have hx2 := hx y (by rw [ho]; simp [Op.operands])
        rw [hgx] at hx1
        rw [hgy] at hx2
        have hx1' : a.eval x = .bool b := hx1
        have hx2' : a.eval y = .bool d' := hx2
        simp only [execOp, ho, hx1', hx2', Sem.run_bind]
        simp [eqGuard, run_eql_bool w t b d' hu]
      · exact hK e w ⟨fun _ _ => ⟨rfl, rfl⟩, rfl, rfl, rfl, Nat.le_refl _, fun _ _ _ => rfl, ⟨fun _ _ h => by simp [boolOut, Out.val, hlook] at h, fun _ _ _ h => by simp [boolOut, Out.val, hlook] at h⟩, fun _ _ _ h => by simp [boolOut, Out.val, hlook] at h⟩
    · exact False.elim h
  · rename_i d' b hgx hgy
    have h := meet_ok hf h
    split at h
    · rename_i hu
      refine ⟨_, fun e a w hx hs K0 Q hK => wp_value (v := .bool (d' == b)) (w' := w) ?_ ?_, h⟩
      · have hx1 := hx x (by rw [ho]; simp [Op.operands])
        have hx2 := hx y (by rw [ho]; simp [Op.operands])
        rw [hgx] at hx1
        rw [hgy] at hx2
        have hx1' : a.eval x = .bool d' := hx1
        have hx2' : a.eval y = .bool b := hx2
        simp only [execOp, ho, hx1', hx2', Sem.run_bind]
        simp [eqGuard, run_eql_bool w t d' b hu]
      · exact hK e w ⟨fun _ _ => ⟨rfl, rfl⟩, rfl, rfl, rfl, Nat.le_refl _, fun _ _ _ => rfl, ⟨fun _ _ h => by simp [boolOut, Out.val, hlook] at h, fun _ _ _ h => by simp [boolOut, Out.val, hlook] at h⟩, fun _ _ _ h => by simp [boolOut, Out.val, hlook] at h⟩
    · exact False.elim h
  · rename_i s s' hne hne2 hgx hgy
    cases hb : (s.ids.isEmpty && s'.ids.isEmpty && !P.eqGuardType P.depth t) with
    | false => rw [hb] at h; exact False.elim h
    | true =>
      rw [hb] at h
      simp only [Bool.and_eq_true, Bool.not_eq_true'] at hb
      obtain ⟨⟨hb1, hb2⟩, hb3⟩ := hb
      simp only [cond_true] at h
      split at h
      · rename_i b hbb
        obtain ⟨heq, hK⟩ := h
        refine ⟨_, OpOk.val fun e a w hx hs => ?_, hK⟩
        have hx1 := hx x (by rw [ho]; simp [Op.operands])
        have hx2 := hx y (by rw [ho]; simp [Op.operands])
        rw [hgx] at hx1
        rw [hgy] at hx2
        simp only [RV.den] at hx1 hx2
        rw [sv_den0 hb1] at hx1
        rw [sv_den0 hb2, ← heq] at hx2
        have := eql_self rfl hbb hb3 x y w
        simp only [execOp, ho, hx1, hx2, Sem.run_bind] at this ⊢
        rw [this]
        rfl
      · exact False.elim h
  · exact False.elim h
theorem evExt_ok {P : Program} {o : Oper} {get : Operand → RV} {hp : Hp} {nx : Nat} {t : TypeId} {x i : Operand} {K : Out → Prop} {facts : Nat → Option (Bool × Bool)} (hf : FactsOk facts) (ho : o.op = .indexAddr t x i) (hwf : WfOp get o hp nx) (h : evExt algP P facts o get hp nx t x i K) : ∃ out, OpOk P o get hp nx out ∧ K out := by
  unfold evExt at h
  split at h
  · rename_i id hg
    split at h
    · rename_i ks n z j el hl hj hu
      split at h
      · rename_i s hs
        cases hb : Nat.beq s ks.length with
        | false => rw [hb] at h; exact False.elim h
        | true =>
          rw [hb] at h
          obtain ⟨⟨hj0, hjn⟩, hK0⟩ := settle_ok hf h
          have hb := Nat.eq_of_beq_eq_true hb
          subst hb
          refine ⟨_, ?_, hK0⟩
          intro e a w hx hsat K Q hK
          have hx1 := hx x (by rw [ho]; simp [Op.operands])
          have hx2 := hx i (by rw [ho]; simp [Op.operands])
          obtain ⟨k, hk⟩ := intOfRV_spec hj e
          rw [hg] at hx1
          rw [hk] at hx2
          obtain ⟨⟨a', cap, hv, hn, h0, h1, h2, hc⟩, hks⟩ := hsat.holds _ _ hl
          have hjn' : j.toNat < n := by omega
          obtain ⟨b, off, ha, hcell⟩ := hc j.toNat hjn'
          subst ha
          simp only [Value.slice.injEq] at hv
          have hx1' : a.eval x = .slice (some ⟨b, off, none⟩) n cap := by rw [hx1]; simp [RV.den, SV.den, CV.den, hv.1, hv.2.1, hv.2.2]
          have hid := (hwf.hp id _ hl).1
          have hne : ∀ i', i' < nx ∨ nx + 1 ≤ i' → i' ≠ nx := fun i' h => by omega
          refine wp_value (w' := w) (v := .pointer (some ⟨b, off + j.toNat * ks.length, none⟩)) ?_ ?_
          · simp only [execOp, ho, hx1', hx2, Instr.indexAt, asIntOf, Sem.run_bind, run_underlying hu, Result.andThen_ok, Sem.run_pure]
            simp only [hj0, hjn, and_self, if_true, Sem.run_bind, sizeP_run hs, Result.andThen_ok, Sem.run_pure, addr_add]
          · have hlk : ∀ id' o', hlook [(nx, HO.ro (rowCells (z j.toNat) ks 0))] id' = some o' → id' = nx ∧ o' = .ro (rowCells (z j.toNat) ks 0) := by
              intro id' o' h
              have := hlook_mem h
              simpa using this
            have := hK (e.setX nx b (off + j.toNat * ks.length)) w ⟨fun i' h => ⟨by simp [Env.setX, hne i' h], by simp [Env.setX, hne i' h]⟩, rfl, rfl, rfl, Nat.le_refl _, fun _ _ _ => rfl, ⟨fun id' o' h => ?_, fun id' cs ty h => ?_⟩, fun id' o' b' h hf => ?_⟩
            · simpa [RV.den, SV.den, CV.den, Env.setX, Env.off] using this
            · obtain ⟨rfl, rfl⟩ := hlk _ _ h
              intro q c hq
              rw [rowCells_get] at hq
              obtain ⟨kk, hkk, rfl⟩ := Option.map_eq_some_iff.1 hq
              have := (hcell q kk hkk).1
              simp only [Env.setX, Env.off, if_true, CV.den, Nat.zero_add]
              exact this
            · obtain ⟨_, h'⟩ := hlk _ _ h
              cases h'
            · obtain ⟨rfl, rfl⟩ := hlk _ _ h
              obtain ⟨_, rfl⟩ := hf
              refine .inr (.inr ⟨rfl, id, _, hl, rfl, by omega, _, hv.1, ?_⟩)
              simp [Env.setX]
      · exact False.elim h
    · exact False.elim h
  · exact evSimple_ok hwf h
theorem run_call {P : Program} {g : FuncId} (hg : goesIn P g = true) (args : Array Value) (w : World) : (callFunc g args).run P w = .ok (.enter g args) w := by
  unfold goesIn at hg
  split at hg
  · rename_i fn hfn
    simp only [Bool.and_eq_true, Bool.not_eq_true'] at hg
    obtain ⟨h1, h2⟩ := hg
    simp only [callFunc, Sem.run_bind, run_program, Result.andThen_ok, hfn, h1, h2, Bool.false_eq_true, if_false, Sem.run_pure]
  · cases hg
theorem callee_ok {P : Program} {o : Oper} {get : Operand → RV} {hp : Hp} {nx : Nat} {c : Call} {g : FuncId} {caps : List (Nat × Nat)} {out : Out} (ho : o.op = .call c) (hcal : calleeOf get c = some (g, caps)) (hg : goesIn P g = true)
    (h : CallOk P g (c.args.toList.map get ++ caps.map ptrRV) hp nx out) : OpOk P o get hp nx out := by
  unfold calleeOf at hcal
  split at hcal
  · rename_i f hf
    split at hcal
    · rename_i g' caps' hget
      cases hcal
      intro e a w hx hsat K Q hK
      have hop : o.op.operands = #[f] ++ c.args := by rw [ho]; simp [Op.operands, Call.operands, hf]
      have h1 : a.eval f = .func (.func g) #[] (caps.map e.ptr).toArray := by
        rw [hx f (by rw [hop]; simp), hget]; rfl
      have h2 : c.args.map a.eval = (c.args.toList.map fun x => (get x).den e).toArray := by
        apply Array.ext'
        simp only [Array.toList_map]
        exact List.map_congr_left fun x hx' => hx x (by rw [hop]; simp; exact .inr (by simpa using hx'))
      have hrun : (execOp a.eval o).run P w = .ok (.enter g ((c.args.toList.map get ++ caps.map ptrRV).map (RV.den e)).toArray) w := by
        simp only [execOp, ho, resolve, hf, h1, Deferred.ofValue, Sem.run_bind, Sem.run_pure, Result.andThen_ok, invoke]
        rw [run_call hg, h2]
        congr 2
        apply Array.ext'
        simp [Function.comp_def, ptrRV, RV.den, SV.den, CV.den, Env.ptr]
      unfold Oper.wp
      rw [hrun]
      refine (h e w hsat).mono fun en w' ⟨e', hen, hp'⟩ => ?_
      subst hen
      exact hK e' w' hp'
    · cases hcal
  · cases hcal
theorem callee_ids {get : Operand → RV} {c : Call} {g : FuncId} {caps : List (Nat × Nat)} (hcal : calleeOf get c = some (g, caps)) : ∃ f, c.callee = .value f ∧ (get f).ids = caps.map (·.1) := by
  unfold calleeOf at hcal
  split at hcal
  · rename_i f hf
    split at hcal
    · rename_i g' caps' hget
      cases hcal
      exact ⟨f, hf, by rw [hget]; rfl⟩
    · cases hcal
  · cases hcal
theorem evOp_ok {P : Program} {call : CallF Prop} {am : Bool} {facts : Nat → Option (Bool × Bool)} (hf : FactsOk facts) (hcall : CallsOk P call) {o : Oper} {get : Operand → RV} {hp : Hp} {nx : Nat} {K : Out → Prop} (hwf : WfOp get o hp nx) (h : evOp algP P facts call am o get hp nx K) : ∃ out, OpOk P o get hp nx out ∧ K out := by
  unfold evOp at h
  split at h
  · rename_i c ho
    split at h
    · rename_i g caps hcal
      cases hg : goesIn P g with
      | false => rw [hg] at h; exact False.elim h
      | true =>
        rw [hg] at h
        obtain ⟨f, hf, hids⟩ := callee_ids hcal
        have hop : o.op.operands = #[f] ++ c.args := by rw [ho]; simp [Op.operands, Call.operands, hf]
        have hnm : Names (c.args.toList.map get ++ caps.map ptrRV) hp nx := by
          refine ⟨fun r hr i hi => ?_, hwf.hp⟩
          rcases List.mem_append.1 hr with hr | hr
          · obtain ⟨x, hx, rfl⟩ := List.mem_map.1 hr
            exact hwf.get x (by rw [hop]; simp; exact .inr (by simpa using hx)) i hi
          · obtain ⟨p, hp', rfl⟩ := List.mem_map.1 hr
            simp only [ptrRV, RV.ids, SV.ids, CV.ids, List.mem_singleton] at hi
            subst hi
            exact hwf.get f (by rw [hop]; simp) _ (by rw [hids]; exact List.mem_map.2 ⟨p, hp', rfl⟩)
        obtain ⟨out, hout, hK⟩ := hcall _ _ _ _ _ hnm h
        exact ⟨out, callee_ok ho hcal hg hout, hK⟩
    · exact evSimple_ok hwf h
  · exact evExt_ok hf ‹_› hwf h
  · rename_i ho
    cases am with
    | true => exact evEq_ok hf ho h
    | false => exact evSimple_ok hwf h
  · exact evSimple_ok hwf h
theorem decideRV_ok {facts : Nat → Option (Bool × Bool)} (hf : FactsOk facts) {g : Bool} {nx : Nat} {v : RV} {K : RV → Nat → Prop} (h : decideRV algP facts g nx v K) : ∃ v' nx', (∀ e, v'.den e = v.den e) ∧ v'.ids = v.ids ∧ nx ≤ nx' ∧ K v' nx' := by
  unfold decideRV at h
  split at h
  · rename_i b
    exact ⟨knownB b, nx + 1, fun _ => rfl, rfl, Nat.le_succ _, meet_ok hf h⟩
  · exact ⟨v, nx, fun _ => rfl, rfl, Nat.le_refl _, h⟩
theorem putL_none (fr : List RV) (v : RV) : putL fr none v = fr := rfl
theorem evOps_ok {P : Program} {call : CallF Prop} {am : Bool} {facts : Nat → Option (Bool × Bool)} (hf : FactsOk facts) (hcall : CallsOk P call) {ops : Array Oper} {fr0 : List RV} {hp0 : Hp} {nx0 : Nat} (hn : Names fr0 hp0 nx0) :
    ∀ (l : List Oper) (trs : List Tr) (K : List RV → Hp → Nat → List Tr → Prop), (∀ j o, l[j]? = some o → ops[trs.length + j]? = some o) → TrsOk P ops fr0 hp0 nx0 trs →
      evOps algP P facts call am ops l (frT fr0 trs) (hpT hp0 trs) (nxT nx0 trs) trs K → ∃ trs', trs'.length = trs.length + l.length ∧ TrsOk P ops fr0 hp0 nx0 trs' ∧ K (frT fr0 trs') (hpT hp0 trs') (nxT nx0 trs') trs' := by
  intro l
  induction l with
  | nil => intro trs K _ htr h; exact ⟨trs, rfl, htr, h⟩
  | cons o rest ih =>
    intro trs K hl htr h
    have hnm := htr.names hn
    have ho : ops[trs.length]? = some o := by simpa using hl 0 o rfl
    have hnext : ∀ t : Tr, ∀ j o', rest[j]? = some o' → ops[(t :: trs).length + j]? = some o' := by
      intro t j o' hj
      have := hl (j + 1) o' (by simpa using hj)
      simpa [Nat.add_assoc, Nat.add_comm 1 j] using this
    have hlen : ∀ (t : Tr) (n : Nat), n = (t :: trs).length + rest.length → n = trs.length + (o :: rest).length := by
      intro t n h; simp only [List.length_cons] at h ⊢; omega
    have hbound : ∀ d n, boundOk d n = true → ∀ x, d = some x → x < n := by
      intro d n h x hx
      subst hx
      exact blt_spec h
    -- an operation that is done
    have run : ∀ (R : List Nat), GuardIs ops o (frT fr0 trs) true → (evOp algP P facts call am o (opnd (frT fr0 trs)) (restrict (hpT hp0 trs) R) (nxT nx0 trs) fun out =>
        bif okOut (restrict (hpT hp0 trs) R) (nxT nx0 trs) out.v out.up out.nx out.W && boundOk o.dst (frT fr0 trs).length then
          decideRV algP facts (isGuard ops.toList trs.length) out.nx out.v fun v nx' =>
            evOps algP P facts call am ops rest (putL (frT fr0 trs) o.dst v) (out.up ++ hpT hp0 trs) nx' (⟨o.dst, v, out.up, out.W, R, nxT nx0 trs, nx', looksOf ops o⟩ :: trs) K
        else algP.fail) → ∃ trs', trs'.length = trs.length + (o :: rest).length ∧ TrsOk P ops fr0 hp0 nx0 trs' ∧ K (frT fr0 trs') (hpT hp0 trs') (nxT nx0 trs') trs' := by
      intro R hg hrun
      have hids : ∀ x ∈ o.op.operands, ∀ id ∈ (opnd (frT fr0 trs) x).ids, id < nxT nx0 trs := by
        intro x _ id hid
        cases x with
        | tmp s => exact getD_ids hnm.1.fr hid
        | const v => simp only [opnd, RV.ids_ofVal] at hid; cases hid
        | global g => simp [opnd, RV.ids, SV.ids, CV.ids] at hid
        | func f => simp [opnd, RV.ids, SV.ids, CV.ids] at hid
      obtain ⟨out, hok, hK⟩ := evOp_ok hf hcall ⟨hids, fun id ob h => hnm.1.hp id ob (hlook_restrict h).2⟩ hrun
      cases hb : (okOut (restrict (hpT hp0 trs) R) (nxT nx0 trs) out.v out.up out.nx out.W && boundOk o.dst (frT fr0 trs).length) with
      | false => rw [hb] at hK; exact False.elim hK
      | true =>
        rw [hb] at hK
        simp only [cond_true] at hK
        simp only [Bool.and_eq_true] at hb
        obtain ⟨v, nx', hv, hvi, hnx', hK⟩ := decideRV_ok hf hK
        have hok' : okOut (restrict (hpT hp0 trs) R) (nxT nx0 trs) v out.up nx' out.W = true := by
          have := okOut_mono hnx' hb.1
          unfold okOut at this ⊢
          rw [hvi]; exact this
        let t : Tr := ⟨o.dst, v, out.up, out.W, R, nxT nx0 trs, nx', looksOf ops o⟩
        obtain ⟨trs', h1, h2, h3⟩ := ih (t :: trs) K (hnext t) ⟨⟨o, ho, ⟨rfl, rfl, rfl, hbound _ _ hb.2, hok', .inl ⟨hg, out, fun _ _ => hok, hv, rfl, hnx', rfl⟩⟩⟩, htr⟩ hK
        exact ⟨trs', hlen t _ h1, h2, h3⟩
    simp only [evOps, fL_eq fN fN_eq, fL_eq fE fE_eq, fL_eq fId fun _ _ => rfl, fRV_eq, fN_eq] at h
    split at h
    · rename_i hgd
      exact run _ (by unfold GuardIs; rw [hgd]) h
    · rename_i g want hgd
      split at h
      · rename_i s hs
        split at h
        · rename_i k b hfr
          cases hbw : (b == want) with
          | true =>
            rw [hbw] at h
            exact run _ (by unfold GuardIs; rw [hgd]; exact .inl ⟨s, b, k, hs, hfr, hbw.symm⟩) h
          | false =>
            rw [hbw] at h
            simp only [cond_false] at h
            cases hb : boundOk o.dst (frT fr0 trs).length with
            | false => rw [hb] at h; exact False.elim h
            | true =>
              rw [hb] at h
              let t : Tr := ⟨o.dst, RV.und, [], [], [], nxT nx0 trs, nxT nx0 trs, looksOf ops o⟩
              have g1 : okOut (restrict (hpT hp0 trs) t.R) (nxT nx0 trs) t.v t.up t.nx1 t.W = true := by simp [t, okOut, RV.und, RV.ids, SV.ids, CV.ids]
              have g2 : GuardIs ops o (frT fr0 trs) false := by unfold GuardIs; rw [hgd]; exact .inl ⟨s, b, k, hs, hfr, hbw.symm⟩
              obtain ⟨trs', h1, h2, h3⟩ := ih (t :: trs) K (hnext t) ⟨⟨o, ho, ⟨rfl, rfl, rfl, hbound _ _ hb, g1, .inr ⟨g2, rfl, rfl, rfl, rfl⟩⟩⟩, htr⟩ h
              exact ⟨trs', hlen t _ h1, h2, h3⟩
        · rename_i hfr
          cases hb : boundOk o.dst (frT fr0 trs).length with
          | false => rw [hb] at h; exact False.elim h
          | true =>
            rw [hb] at h
            let t : Tr := ⟨o.dst, RV.und, [], [], [], nxT nx0 trs, nxT nx0 trs, looksOf ops o⟩
            have g1 : okOut (restrict (hpT hp0 trs) t.R) (nxT nx0 trs) t.v t.up t.nx1 t.W = true := by simp [t, okOut, RV.und, RV.ids, SV.ids, CV.ids]
            have g2 : GuardIs ops o (frT fr0 trs) false := by unfold GuardIs; rw [hgd]; exact .inr ⟨s, hs, hfr, rfl⟩
            obtain ⟨trs', h1, h2, h3⟩ := ih (t :: trs) K (hnext t) ⟨⟨o, ho, ⟨rfl, rfl, rfl, hbound _ _ hb, g1, .inr ⟨g2, rfl, rfl, rfl, rfl⟩⟩⟩, htr⟩ h
            exact ⟨trs', hlen t _ h1, h2, h3⟩
        · exact False.elim h
      · exact False.elim h
theorem Stands.dec {n0 base : Nat} {H0 : Nat → Option HO} {st : St} {e : Env} {a : Act} {w : World} {c : Operand} {k b : Bool} (h : Stands n0 base H0 st e a w) (hc : opnd st.fr c = .sv (.one (.val k (.bool b)))) : Stands n0 base H0 (decSt st c b) e a w := by
  cases c with
  | tmp s =>
    refine ⟨?_, h.defers, h.sat, h.org, h.old⟩
    rw [h.fr]
    simp only [decSt]
    apply List.ext_getElem?
    intro i
    simp only [List.getElem?_map, List.getElem?_set]
    by_cases hi : s = i
    · subst hi
      simp only [opnd, List.getD_eq_getElem?_getD] at hc
      cases hh : st.fr[s]? with
      | none => simp [Nat.not_lt.2 (List.getElem?_eq_none_iff.1 hh)]
      | some r =>
        rw [hh] at hc
        simp only [Option.getD_some] at hc
        subst hc
        have : s < st.fr.length := by
          rcases Nat.lt_or_ge s st.fr.length with h' | h'
          · exact h'
          · rw [List.getElem?_eq_none h'] at hh; cases hh
        simp [this, knownB, RV.den, SV.den, CV.den]
    · simp [hi]
  | const v => exact ⟨h.fr, h.defers, h.sat, h.org, h.old⟩
  | global g => exact ⟨h.fr, h.defers, h.sat, h.org, h.old⟩
  | func f => exact ⟨h.fr, h.defers, h.sat, h.org, h.old⟩
theorem decSt_names {st : St} {c : Operand} {b : Bool} (h : Names st.fr st.hp st.nx) : Names (decSt st c b).fr (decSt st c b).hp (decSt st c b).nx := by
  have h2 : ∀ id o, hlook st.hp id = some o → id < st.nx + 1 ∧ ∀ i ∈ o.ids, i < st.nx + 1 := fun id o ho => ⟨Nat.lt_succ_of_lt (h.hp id o ho).1, fun i hi => Nat.lt_succ_of_lt ((h.hp id o ho).2 i hi)⟩
  have h1 : ∀ r ∈ st.fr, ∀ i ∈ r.ids, i < st.nx + 1 := fun r hr i hi => Nat.lt_succ_of_lt (h.fr r hr i hi)
  cases c with
  | tmp s =>
    refine ⟨fun r hr i hi => ?_, h2⟩
    rcases mem_set hr with rfl | hr
    · simp [knownB, RV.ids, SV.ids, CV.ids] at hi
    · exact h1 r hr i hi
  | _ => exact ⟨h1, h2⟩
theorem decSt_nx {st : St} {c : Operand} {b : Bool} : (decSt st c b).nx = st.nx + 1 := by cases c <;> rfl
theorem decSt_W {st : St} {c : Operand} {b : Bool} : (decSt st c b).W = st.W := by cases c <;> rfl
theorem CodeOk.dec {P : Program} {code : Code} {st s2 : St} {ex : Ex} {c : Operand} {k b : Bool} (hc : opnd st.fr c = .sv (.one (.val k (.bool b)))) (h : CodeOk P code (decSt st c b) ex s2) : CodeOk P code st ex s2 := by
  refine ⟨fun hn => ?_, fun id hid => h.W id (by rw [decSt_W]; exact hid), fun hn n0 base H0 e a w h1 h2 hs Q hQ => ?_⟩
  · have := h.names (decSt_names hn)
    rw [decSt_nx] at this
    exact ⟨this.1, by omega⟩
  · refine h.goes (decSt_names hn) n0 base H0 e a w (by rw [decSt_nx]; omega) h2 (hs.dec hc) Q fun e' a' w' hm hs' => hQ e' a' w' ⟨fun id hid => hm.agree id (by rw [decSt_nx]; omega), hm.os, hm.tape, hm.output, hm.size, hm.fr⟩ hs'
theorem evLoop_ok {P : Program} {c : Code} {body : St → (Ex → St → Prop) → Prop} (hb : ∀ st (K : Ex → St → Prop), Names st.fr st.hp st.nx → body st K → ∃ ex s, CodeOk P c st ex s ∧ K ex s) :
    ∀ (n : Nat) (st : St) (K : Ex → St → Prop), Names st.fr st.hp st.nx → evLoop algP body n st K → ∃ ex s, RoundsOk P c st ex s ∧ K ex s := by
  intro n
  induction n with
  | zero => intro st K _ h; exact False.elim h
  | succ n ih =>
    intro st K hn h
    obtain ⟨ex, s, h1, h2⟩ := hb st _ hn h
    cases ex with
    | normal =>
      obtain ⟨ex', s', h3, h4⟩ := ih s K (h1.names hn).1 h2
      exact ⟨ex', s', .again h1 h3, h4⟩
    | exit i => exact ⟨_, s, .out h1 (by intro h'; cases h'), h2⟩
    | ret => exact ⟨_, s, .out h1 (by intro h'; cases h'), h2⟩
theorem evCode_ok {P : Program} {call : CallF Prop} {am : Bool} {facts : Nat → Option (Bool × Bool)} (hf : FactsOk facts) (hcall : CallsOk P call) {hook : List Nat} : ∀ (c : Code) (st : St) (K : Ex → St → Prop), Names st.fr st.hp st.nx → evCode algP P facts call hook am c st K → ∃ ex s, CodeOk P c st ex s ∧ K ex s := by
  intro c
  induction c with
  | skip => intro st K _ h; exact ⟨_, _, .skip, h⟩
  | label l => intro st K _ h; exact ⟨_, _, .label, h⟩
  | exit id => intro st K _ h; exact ⟨_, _, .exit, h⟩
  | ret => intro st K _ h; exact ⟨_, _, .ret, h⟩
  | region id ops draw =>
    intro st K hn h
    obtain ⟨trs, h1, h2, h3⟩ := evOps_ok hf hcall hn ops.toList [] _ (fun j o hj => by simpa using hj) trivial h
    cases hb : (!draw || (P.follows .mixedOrders && edgesBack ops.toList 0 && chkAll trs (masks ops.toList []))) with
    | false => rw [hb] at h3; exact False.elim h3
    | true =>
      rw [hb] at h3
      refine ⟨_, _, .region h2 (by simpa using h1) (fun hd => ?_), h3⟩
      subst hd
      simp only [Bool.not_true, Bool.false_or, Bool.and_eq_true] at hb
      exact ⟨hb.1.1, hb.1.2, hb.2⟩
  | seq x y ihx ihy =>
    intro st K hn h
    obtain ⟨ex, s, h1, h2⟩ := ihx st _ hn h
    cases ex with
    | normal =>
      obtain ⟨ex', s', h3, h4⟩ := ihy s K (h1.names hn).1 h2
      exact ⟨ex', s', .seq h1 h3, h4⟩
    | exit i => exact ⟨_, s, .seq_out h1 (by intro h'; cases h'), h2⟩
    | ret => exact ⟨_, s, .seq_out h1 (by intro h'; cases h'), h2⟩
  | cond c x y ihx ihy =>
    intro st K hn h
    simp only [evCode] at h
    split at h
    · rename_i k b hc
      cases k with
      | true =>
        simp only [cond_true] at h
        cases b with
        | true => obtain ⟨ex, s, h1, h2⟩ := ihx st K hn h; exact ⟨ex, s, .cond hc h1, h2⟩
        | false => obtain ⟨ex, s, h1, h2⟩ := ihy st K hn h; exact ⟨ex, s, .cond hc h1, h2⟩
      | false =>
        simp only [cond_false] at h
        have h := meet_ok hf h
        cases b with
        | true => obtain ⟨ex, s, h1, h2⟩ := ihx _ K (decSt_names hn) h; exact ⟨ex, s, .cond hc (.dec hc h1), h2⟩
        | false => obtain ⟨ex, s, h1, h2⟩ := ihy _ K (decSt_names hn) h; exact ⟨ex, s, .cond hc (.dec hc h1), h2⟩
    · exact False.elim h
  | block id c ih =>
    intro st K hn h
    simp only [evCode] at h
    cases hh : hook.any (Nat.beq id) with
    | true => rw [hh] at h; exact h
    | false =>
      rw [hh] at h
      obtain ⟨ex, s, h1, h2⟩ := ih st _ hn h
      cases ex with
      | normal => exact ⟨_, s, .block_same h1 (by intro h'; cases h'), h2⟩
      | exit i =>
        simp only at h2
        cases hi : Nat.beq i id with
        | true =>
          rw [hi] at h2
          obtain rfl := Nat.eq_of_beq_eq_true hi
          exact ⟨_, s, .block_exit h1, h2⟩
        | false =>
          rw [hi] at h2
          exact ⟨_, s, .block_same h1 (by intro h'; cases h'; rw [Nat.beq_refl] at hi; cases hi), h2⟩
      | ret => exact ⟨_, s, .block_same h1 (by intro h'; cases h'), h2⟩
  | loop c ih =>
    intro st K hn h
    obtain ⟨ex, s, h1, h2⟩ := evLoop_ok ih 300 st K hn h
    exact ⟨ex, s, .loop h1, h2⟩
  | scope c ih =>
    intro st K hn h
    obtain ⟨ex, s, h1, h2⟩ := ih st K hn h
    exact ⟨ex, s, .scope h1, h2⟩
  | rangeFunc f p a b _ _ => intro st K _ h; exact False.elim h
  | goto l => intro st K _ h; exact False.elim h
  | refuse s => intro st K _ h; exact False.elim h
end Go.Proofs.Ytaikocplcblnkab
