/- A symbolic way through the code of a call: any sound algebra serves; two ways that meet again. No condition. -/
import Derived.Test.YthgneojhhocflaaEng10
set_option linter.unusedVariables false
namespace Go.Proofs.Ythgneojhhocflaa
open Go.RowKit

/-! ### Any algebra that is sound serves for the proposition -/
/-- T: a good outcome. -/
structure Sound {R : Type} (A : Alg R) (T : R → Prop) : Prop where
  fail : ¬ T A.fail
  ob : ∀ {n b r}, T (A.ob n b r) → b = true ∧ T r
  eqI : ∀ {x y r}, T (A.eqI x y r) → x = y ∧ T r
  br : ∀ {n b r r'}, T (A.br n b r r') → (b = true → T r) ∧ (b = false → T r')
def GSim {R : Type} (T : R → Prop) (call : CallF R) (call' : CallF Prop) : Prop := ∀ f args hp nx (K : Out → R) (K' : Out → Prop), (∀ out, T (K out) → K' out) → T (call f args hp nx K) → call' f args hp nx K'
section
variable {R : Type} {A : Alg R} {T : R → Prop} {P : Program} {facts : Nat → Option (Bool × Bool)}
theorem gsim_eqL (hA : Sound A T) : ∀ {l r : List Item} {K : R} {K' : Prop}, (T K → K') → T (eqL A l r K) → eqL algP l r K' := by
  intro l
  induction l with
  | nil => intro r K K' hK h; cases r with
    | nil => exact hK h
    | cons y r => exact absurd h hA.fail
  | cons x l ih => intro r K K' hK h; cases r with
    | nil => exact absurd h hA.fail
    | cons y r => exact ⟨(hA.eqI h).1, ih hK (hA.eqI h).2⟩
theorem gsim_ob (hA : Sound A T) {nx : Nat} {o : Option Bool} {K : R} {K' : Prop} (hK : T K → K') (h : T (obO A nx o K)) : obO algP nx o K' := by
  cases o with
  | none => exact hK h
  | some b => exact ⟨(hA.ob h).1, hK (hA.ob h).2⟩
theorem gsim_settle (hA : Sound A T) {nx : Nat} {b : Bool} {r : R} {q : Prop} (hr : T r → q) (h : T (settle A facts nx b r)) : settle algP facts nx b q := by
  unfold settle at h ⊢
  split
  · rename_i b hb
    rw [hb] at h
    exact ⟨(hA.eqI h).1, hr (hA.eqI h).2⟩
  · rename_i hne
    split at h
    · rename_i b hb; exact absurd hb (hne b)
    · exact ⟨(hA.ob h).1, hr (hA.ob h).2⟩
theorem gsim_simple (hA : Sound A T) {o : Oper} {get : Operand → RV} {hp : Hp} {nx : Nat} {K : Out → R} {K' : Out → Prop} (hK : ∀ out, T (K out) → K' out) (h : T (evSimple A P facts o get hp nx K)) : evSimple algP P facts o get hp nx K' := by
  unfold evSimple at h ⊢
  split
  · rename_i b out hout
    rw [hout] at h
    exact gsim_settle hA (hK _) h
  · rename_i h0
    rw [h0] at h
    simp only at h
    split
    · rename_i out hout
      rw [hout] at h
      exact hK _ h
    · rename_i h1
      rw [h1] at h
      simp only at h
      split
      · rename_i out hout
        rw [hout] at h
        simp only at h
        cases hb : out.up.all (fun p => p.2.ids.all (fun i => Nat.blt i nx)) with
        | false => rw [hb] at h; exact absurd h hA.fail
        | true => rw [hb] at h; exact hK _ h
      · rename_i hout
        rw [hout] at h
        exact absurd h hA.fail
theorem gsim_meet (hA : Sound A T) {nx : Nat} {b : Bool} {K : Bool → R} {K' : Bool → Prop} (hK : ∀ d, T (K d) → K' d) (h : T (meet A facts nx b K)) : meet algP facts nx b K' := by
  unfold meet at h ⊢
  split
  · rename_i b' d hb
    rw [hb] at h
    exact ⟨(hA.eqI h).1, hK _ (hA.eqI h).2⟩
  · rename_i hb
    rw [hb] at h
    exact ⟨fun h1 => hK _ ((hA.br h).1 h1), fun h1 => hK _ ((hA.br h).2 h1)⟩
theorem gsim_eq (hA : Sound A T) {o : Oper} {get : Operand → RV} {hp : Hp} {nx : Nat} {t : TypeId} {x y : Operand} {K : Out → R} {K' : Out → Prop} (hK : ∀ out, T (K out) → K' out) (h : T (evEq A P facts o get hp nx t x y K)) : evEq algP P facts o get hp nx t x y K' := by
  unfold evEq at h ⊢
  split
  · rename_i b d' h1 h2
    rw [h1, h2] at h
    refine gsim_meet hA (fun d h => ?_) h
    split
    · rename_i hu
      rw [hu] at h
      exact hK _ h
    · rename_i hne
      split at h
      · rename_i hu; exact absurd hu hne
      · exact absurd h hA.fail
  · rename_i d' b h1 h2
    rw [h1, h2] at h
    refine gsim_meet hA (fun d h => ?_) h
    split
    · rename_i hu
      rw [hu] at h
      exact hK _ h
    · rename_i hne
      split at h
      · rename_i hu; exact absurd hu hne
      · exact absurd h hA.fail
  · rename_i s s' hne0 hne1 h1 h2
    rw [h1, h2] at h
    split at h
    · rename_i b d' g1 g2
      cases g1
      cases g2
      exact absurd rfl (hne0 _ _ rfl)
    · rename_i b d' g1 g2
      cases g1
      cases g2
      exact absurd rfl (hne1 _ _ rfl)
    rotate_left
    · rename_i g1; exact absurd rfl (fun h => g1 _ _ rfl h)
    rename_i g0 g3 g1 g2
    cases g1
    cases g2
    cases hb : (s.ids.isEmpty && s'.ids.isEmpty && !P.eqGuardType P.depth t) with
    | false => rw [hb] at h; exact absurd h hA.fail
    | true =>
      rw [hb] at h
      simp only [cond_true] at h ⊢
      split
      · rename_i b hbb
        rw [hbb] at h
        exact ⟨(hA.eqI h).1, hK _ (hA.eqI h).2⟩
      · rename_i hbb
        rw [hbb] at h
        exact absurd h hA.fail
  · rename_i hne0 hne1 hne
    split at h
    · rename_i b d' h1 h2; exact absurd h2 (hne0 _ _ h1)
    · rename_i b d' h1 h2; exact absurd h2 (hne1 _ _ h1)
    · rename_i s s' h0 h3 h1 h2; exact absurd h2 (hne _ _ h1)
    · exact absurd h hA.fail
theorem gsim_pick (hA : Sound A T) {nx : Nat} {K : Out → R} {K' : Out → Prop} (hK : ∀ out, T (K out) → K' out) : ∀ {l : List (Bool × Out)}, T (pickAlt A facts nx K l) → pickAlt algP facts nx K' l := by
  intro l
  induction l with
  | nil => intro h; exact absurd h hA.fail
  | cons p r ih =>
    intro h
    cases r with
    | nil => exact gsim_settle hA (hK p.2) h
    | cons q r =>
      refine gsim_meet hA (fun d hd => ?_) h
      cases d with
      | true => exact hK _ hd
      | false => exact ih hd
theorem gsim_op (hA : Sound A T) {call : CallF R} {call' : CallF Prop} (hc : GSim T call call') {am : Mode} {o : Oper} {get : Operand → RV} {hp : Hp} {nx : Nat} {K : Out → R} {K' : Out → Prop} (hK : ∀ out, T (K out) → K' out) (h : T (evOp A P facts call am o get hp nx K)) : evOp algP P facts call' am o get hp nx K' := by
  unfold evOp at h ⊢
  split
  · rename_i c ho
    rw [ho] at h
    simp only at h
    split
    · rename_i g fs caps hcal
      rw [hcal] at h
      simp only at h
      cases hg : goesIn P g with
      | false => rw [hg] at h; exact absurd h hA.fail
      | true => rw [hg] at h; exact hc _ _ _ _ _ _ hK h
    · rename_i hcal
      rw [hcal] at h
      exact gsim_simple hA hK h
  · rename_i t x y yt ho
    rw [ho] at h
    simp only at h
    cases hm : am.am with
    | true => rw [hm] at h; exact gsim_eq hA (o := o) (hp := hp) hK h
    | false => rw [hm] at h; exact gsim_simple hA hK h
  · rename_i t n ps ho
    rw [ho] at h
    simp only at h
    cases hm : am.rows with
    | true =>
      rw [hm] at h
      simp only [cond_true] at h ⊢
      split
      · rename_i out hout; rw [hout] at h; exact hK _ h
      · rename_i hout; rw [hout] at h; exact gsim_simple hA hK h
    | false => rw [hm] at h; exact gsim_simple hA hK h
  · rename_i h1 h3 h4
    split at h
    · rename_i c ho; exact absurd ho (h1 c)
    · rename_i t x y yt ho; exact absurd ho (h3 t x y yt)
    · rename_i t n ps ho; exact absurd ho (h4 t n ps)
    · cases hm : am.rows with
      | true =>
        rw [hm] at h
        simp only [cond_true] at h ⊢
        split
        · rename_i l hl; rw [hl] at h; exact gsim_pick hA hK h
        · rename_i hl; rw [hl] at h; exact gsim_simple hA hK h
      | false => rw [hm] at h; exact gsim_simple hA hK h
theorem gsim_decide (hA : Sound A T) {g : Bool} {nx : Nat} {v : RV} {K : RV → Nat → R} {K' : RV → Nat → Prop} (hK : ∀ v n, T (K v n) → K' v n) (h : T (decideRV A facts g nx v K)) : decideRV algP facts g nx v K' := by
  unfold decideRV at h ⊢
  split
  · exact gsim_meet hA (fun d => hK _ _) h
  · rename_i hne
    split at h
    · rename_i b; exact absurd rfl (hne b rfl)
    · exact hK _ _ h
theorem gsim_ops (hA : Sound A T) {call : CallF R} {call' : CallF Prop} (hc : GSim T call call') {am : Mode} {ops : Array Oper} : ∀ (l : List Oper) (fr : List RV) (hp : Hp) (nx : Nat) (trs : List Tr) (K : List RV → Hp → Nat → List Tr → R) (K' : List RV → Hp → Nat → List Tr → Prop),
    (∀ a b c d, T (K a b c d) → K' a b c d) → T (evOps A P facts call am ops l fr hp nx trs K) → evOps algP P facts call' am ops l fr hp nx trs K' := by
  intro l
  induction l with
  | nil => intro fr hp nx trs K K' hK h; exact hK _ _ _ _ h
  | cons o rest ih =>
    intro fr hp nx trs K K' hK h
    have run : ∀ (Rs : List Nat), T (evOp A P facts call am o (opnd fr) (restrict hp Rs) nx fun out =>
        bif okOut (restrict hp Rs) nx out.v out.up out.nx out.W && boundOk o.dst fr.length then
          decideRV A facts (isGuard ops.toList trs.length) out.nx out.v fun v nx' =>
            evOps A P facts call am ops rest (putL fr o.dst v) (out.up ++ hp) nx' (⟨o.dst, v, out.up, out.W, Rs, nx, nx', looksOf ops o⟩ :: trs) K
        else A.fail) → evOp algP P facts call' am o (opnd fr) (restrict hp Rs) nx fun out =>
        bif okOut (restrict hp Rs) nx out.v out.up out.nx out.W && boundOk o.dst fr.length then
          decideRV algP facts (isGuard ops.toList trs.length) out.nx out.v fun v nx' =>
            evOps algP P facts call' am ops rest (putL fr o.dst v) (out.up ++ hp) nx' (⟨o.dst, v, out.up, out.W, Rs, nx, nx', looksOf ops o⟩ :: trs) K'
        else algP.fail := by
      intro Rs hr
      refine gsim_op hA hc (fun out h => ?_) hr
      cases hb : (okOut (restrict hp Rs) nx out.v out.up out.nx out.W && boundOk o.dst fr.length) with
      | false => rw [hb] at h; exact absurd h hA.fail
      | true =>
        rw [hb] at h
        simp only [cond_true] at h ⊢
        exact gsim_decide hA (fun v n h => ih _ _ _ _ K K' hK h) h
    have run' : ∀ (Rs : List Nat), T (bif liveOps fr o then (evOp A P facts call am o (opnd fr) (restrict hp Rs) nx fun out =>
        bif okOut (restrict hp Rs) nx out.v out.up out.nx out.W && boundOk o.dst fr.length then
          decideRV A facts (isGuard ops.toList trs.length) out.nx out.v fun v nx' =>
            evOps A P facts call am ops rest (putL fr o.dst v) (out.up ++ hp) nx' (⟨o.dst, v, out.up, out.W, Rs, nx, nx', looksOf ops o⟩ :: trs) K
        else A.fail) else A.fail) → (bif liveOps fr o then (evOp algP P facts call' am o (opnd fr) (restrict hp Rs) nx fun out =>
        bif okOut (restrict hp Rs) nx out.v out.up out.nx out.W && boundOk o.dst fr.length then
          decideRV algP facts (isGuard ops.toList trs.length) out.nx out.v fun v nx' =>
            evOps algP P facts call' am ops rest (putL fr o.dst v) (out.up ++ hp) nx' (⟨o.dst, v, out.up, out.W, Rs, nx, nx', looksOf ops o⟩ :: trs) K'
        else algP.fail) else algP.fail) := by
      intro Rs hr
      cases hl : liveOps fr o with
      | false => rw [hl] at hr; exact absurd hr hA.fail
      | true => rw [hl] at hr; exact run Rs hr
    simp only [evOps, fL_eq fN fN_eq, fL_eq fE fE_eq, fL_eq fId fun _ _ => rfl, fRV_eq, fN_eq] at h ⊢
    split
    · rename_i hgd
      rw [hgd] at h
      exact run' _ h
    · rename_i g want hgd
      rw [hgd] at h
      simp only at h
      split
      · rename_i s hs
        rw [hs] at h
        simp only at h
        split
        · rename_i k b hfr
          rw [hfr] at h
          simp only at h
          cases hbw : (b == want) with
          | true => rw [hbw] at h; exact run' _ h
          | false =>
            rw [hbw] at h
            simp only [cond_false] at h ⊢
            cases hb : boundOk o.dst fr.length with
            | false => rw [hb] at h; exact absurd h hA.fail
            | true => rw [hb] at h; exact ih _ _ _ _ K K' hK h
        · rename_i hfr
          rw [hfr] at h
          simp only at h
          cases hb : boundOk o.dst fr.length with
          | false => rw [hb] at h; exact absurd h hA.fail
          | true => rw [hb] at h; exact ih _ _ _ _ K K' hK h
        · rename_i hne hne2
          split at h
          · rename_i k b hfr; exact absurd hfr (hne k b)
          · rename_i hfr; exact absurd hfr hne2
          · exact absurd h hA.fail
      · rename_i hs
        rw [hs] at h
        exact absurd h hA.fail
theorem gsim_LR (hA : Sound A T) {m : Nat} : ∀ (r : LR) (n : Nat) (K : Ex → St → R) (K' : Ex → St → Prop), (∀ e s, T (K e s) → K' e s) → T (evLR A facts m r n K) → evLR algP facts m r n K' := by
  intro r
  induction r with
  | one ex s =>
    intro n K K' hK h
    simp only [evLR] at h ⊢
    cases hb : (namesB s && Nat.ble m s.nx) with
    | false => rw [hb] at h; exact absurd h hA.fail
    | true => rw [hb] at h; exact hK _ _ h
  | br b x y ihx ihy =>
    intro n K K' hK h
    refine gsim_meet hA (fun d h => ?_) h
    cases d with
    | true => exact ihx _ K K' hK h
    | false => exact ihy _ K K' hK h
theorem gsim_land (hA : Sound A T) {n0 : Nat} {rn : List (Nat × Option Nat)} {S s : St} {K : R} {K' : Prop} (hK : T K → K') (h : T (evLand A n0 rn S s K)) : evLand algP n0 rn S s K' := by
  unfold evLand at h ⊢
  cases hb : landB n0 rn S s with
  | false => rw [hb] at h; exact absurd h hA.fail
  | true =>
    rw [hb] at h
    simp only [cond_true] at h ⊢
    split
    · rename_i p hp
      rw [hp] at h
      exact ⟨(hA.eqI h).1, hK (hA.eqI h).2⟩
    · rename_i hp
      rw [hp] at h
      exact absurd h hA.fail
theorem gsim_code (hA : Sound A T) {call : CallF R} {call' : CallF Prop} (hc : GSim T call call') {am : Mode} {n0 : Nat} {hook : Nat → Nat → Option (LoopCon P)} {jn : JoinF} : ∀ (c : Code) (st : St) (K : Ex → St → R) (K' : Ex → St → Prop), (∀ e s, T (K e s) → K' e s) →
    T (evCode A P facts call hook jn n0 am c st K) → evCode algP P facts call' hook jn n0 am c st K' := by
  intro c
  induction c with
  | skip => intro st K K' hK h; exact hK _ _ h
  | label l => intro st K K' hK h; exact hK _ _ h
  | exit id => intro st K K' hK h; exact hK _ _ h
  | ret => intro st K K' hK h; exact hK _ _ h
  | region id ops draw =>
    intro st K K' hK h
    refine gsim_ops hA hc _ _ _ _ _ _ _ (fun fr hp nx trs h => ?_) h
    cases hb : (!draw || (P.follows .mixedOrders && edgesBack ops.toList 0 && chkAll trs (masks ops.toList []))) with
    | false => rw [hb] at h; exact absurd h hA.fail
    | true => rw [hb] at h; exact hK _ _ h
  | seq x y ihx ihy =>
    intro st K K' hK h
    refine ihx _ _ _ (fun ex s h => ?_) h
    cases ex with
    | normal => exact ihy _ _ _ hK h
    | exit i => exact hK _ _ h
    | ret => exact hK _ _ h
  | cond c x y ihx ihy =>
    intro st K K' hK h
    simp only [evCode] at h ⊢
    split
    · rename_i k b hc'
      rw [hc'] at h
      simp only at h
      cases k with
      | true =>
        cases b with
        | true => exact ihx _ _ _ hK h
        | false => exact ihy _ _ _ hK h
      | false =>
        simp only [cond_false] at h ⊢
        have part : T (meet A facts st.nx b (fun d => bif d then evCode A P facts call hook jn n0 am x (decSt st c true) K else evCode A P facts call hook jn n0 am y (decSt st c false) K)) →
            meet algP facts st.nx b (fun d => bif d then evCode algP P facts call' hook jn n0 am x (decSt st c true) K' else evCode algP P facts call' hook jn n0 am y (decSt st c false) K') := by
          intro h
          refine gsim_meet hA (fun d h => ?_) h
          cases d with
          | true => exact ihx _ _ _ hK h
          | false => exact ihy _ _ _ hK h
        cases hfx : facts st.nx with
        | some p => rw [hfx] at h; exact part h
        | none =>
          rw [hfx] at h
          simp only at h ⊢
          cases hjn : jn c b x y st with
          | none => rw [hjn] at h; exact part h
          | some j =>
            rw [hjn] at h
            simp only [fL_eq fRV fRV_eq, fL_eq fE fE_eq, fN_eq, fL_eq fN fN_eq] at h ⊢
            exact gsim_eqL hA (gsim_ob hA (hK _ _)) h
    · rename_i hne
      split at h
      · rename_i k b hc'; exact absurd hc' (hne k b)
      · exact absurd h hA.fail
  | block id c ih =>
    intro st K K' hK h
    simp only [evCode] at h ⊢
    split
    · rename_i lc hlc
      rw [hlc] at h
      simp only at h
      cases hb : (Nat.beq lc.n0 n0 && Nat.ble st.nx lc.S.nx && st.W.all (fun i => Nat.ble n0 i || lc.S.W.any (Nat.beq i))) with
      | false => rw [hb] at h; exact absurd h hA.fail
      | true =>
        rw [hb] at h
        simp only [cond_true] at h ⊢
        refine ⟨(hA.eqI h).1, gsim_land hA (fun h => ?_) (hA.eqI h).2⟩
        split
        · rename_i b hpre
          rw [hpre] at h
          exact gsim_settle hA (gsim_LR hA _ _ _ _ hK) h
        · rename_i hpre
          rw [hpre] at h
          exact gsim_LR hA _ _ _ _ hK h
    · rename_i hlc
      rw [hlc] at h
      simp only at h
      refine ih _ _ _ (fun ex s h => ?_) h
      cases ex with
      | normal => exact hK _ _ h
      | exit i =>
        simp only at h ⊢
        cases hi : Nat.beq i id with
        | true => rw [hi] at h; exact hK _ _ h
        | false => rw [hi] at h; exact hK _ _ h
      | ret => exact hK _ _ h
  | loop c ih =>
    intro st K hK h
    have key : ∀ n st (K : Ex → St → R) (K' : Ex → St → Prop), (∀ e s, T (K e s) → K' e s) → T (evLoop A (evCode A P facts call hook jn n0 am c) n st K) → evLoop algP (evCode algP P facts call' hook jn n0 am c) n st K' := by
      intro n
      induction n with
      | zero => intro st K K' _ h; exact absurd h hA.fail
      | succ n ihn =>
        intro st K K' hK h
        refine ih _ _ _ (fun ex s h => ?_) h
        cases ex with
        | normal => exact ihn _ _ _ hK h
        | exit i => exact hK _ _ h
        | ret => exact hK _ _ h
    exact key 300 st K hK h
  | scope c ih => intro st K K' hK h; exact ih _ _ _ hK h
  | rangeFunc f p a b _ _ => intro st K K' _ h; exact absurd h hA.fail
  | goto l => intro st K K' _ h; exact absurd h hA.fail
  | refuse s => intro st K K' _ h; exact absurd h hA.fail
theorem gsim_res (hA : Sound A T) {fn : Func} {s : St} {nx : Nat} {K : Out → R} {K' : Out → Prop} (hK : ∀ out, T (K out) → K' out) (h : T (evRes A P fn s nx K)) : evRes algP P fn s nx K' := by
  unfold evRes at h ⊢
  split
  · rename_i l hl; rw [hl] at h; exact hK _ h
  · rename_i hl; rw [hl] at h; exact absurd h hA.fail
theorem gsim_body (hA : Sound A T) {C : Cfg P} {call : CallF R} {call' : CallF Prop} (hc : GSim T call call') {callJ : CallF JR} {f : FuncId} {args : List RV} {hp : Hp} {nx : Nat} {K : Out → R} {K' : Out → Prop} (hK : ∀ out, T (K out) → K' out) (h : T (evBody A C call callJ f args hp nx K)) : evBody algP C call' callJ f args hp nx K' := by
  unfold evBody at h ⊢
  split
  · rename_i fn hfn
    rw [hfn] at h
    simp only at h
    split
    · rename_i c hb
      rw [hb] at h
      refine gsim_code hA hc _ _ _ _ (fun ex s h => ?_) h
      cases ex with
      | normal => exact gsim_res hA hK h
      | exit i => exact absurd h hA.fail
      | ret => exact gsim_res hA hK h
    · rename_i hb; rw [hb] at h; exact absurd h hA.fail
  · rename_i hfn; rw [hfn] at h; exact absurd h hA.fail
theorem gsim_call (hA : Sound A T) {C : Cfg P} : ∀ n, GSim T (evCall A C n) (evCall algP C n) := by
  intro n
  induction n with
  | zero => intro f args hp nx K K' _ h; exact absurd h hA.fail
  | succ n ih =>
    intro f args hp nx K K' hK h
    simp only [evCall, fOut_eq] at h ⊢
    split
    · rename_i c hc
      rw [hc] at h
      simp only at h
      split
      · rename_i out hout; rw [hout] at h; exact hK _ h
      · rename_i b out hout; rw [hout] at h; exact gsim_settle hA (hK _) h
      · rename_i hout; rw [hout] at h; exact gsim_body hA ih hK h
    · rename_i hc
      rw [hc] at h
      exact gsim_body hA ih hK h
end
/-! ### Two ways that meet again -/
def JR.is (p : Ex × St) (r : JR) : Prop := r.l = r.r ∧ (∀ b, r.obs = some b → b = true) ∧ r.o = some p
theorem sound_J (p : Ex × St) : Sound algJ (JR.is p) where
  fail := fun h => by cases h.2.2
  ob := fun {n b r} h => by
    obtain ⟨l, k, q, o⟩ := r
    cases q with
    | none =>
      obtain ⟨h1, h2, h3⟩ := h
      exact ⟨h2 _ rfl, h1, fun b' hb' => (by cases hb'), h3⟩
    | some b' =>
      obtain ⟨h1, h2, h3⟩ := h
      have h2 := h2 _ rfl
      simp only [Bool.and_eq_true] at h2
      exact ⟨h2.1, h1, fun b'' hb' => (by cases hb'; exact h2.2), h3⟩
  eqI := fun {x y r} h => by
    obtain ⟨l, k, q, o⟩ := r
    obtain ⟨h1, h2, h3⟩ := h
    simp only [algJ, List.cons.injEq] at h1
    exact ⟨h1.1, h1.2, h2, h3⟩
  br := fun h => by cases h.2.2
theorem HO.unk_ids (o : HO) : o.unk.ids = o.ids := by
  cases o with
  | cells cs t => simp only [HO.unk, HO.ids, List.flatMap_map]; congr 1; funext c; exact CV.unk_ids c
  | _ => rfl
/-- s says no more than s1. -/
structure Weak (s s1 : St) : Prop where
  len : s.fr.length = s1.fr.length
  fr : ∀ (i : Nat) r, s.fr[i]? = some r → r.isDead = true ∨ ∃ r1, s1.fr[i]? = some r1 ∧ r.unk = r1.unk
  hp : ∀ id o, hlook s.hp id = some o → ∃ o1, hlook s1.hp id = some o1 ∧ o.unk = o1.unk
  nx : s1.nx ≤ s.nx
  W : ∀ i ∈ s1.W, i ∈ s.W
theorem dead_ids {r : RV} (h : r.isDead = true) : r.ids = [] := by cases r <;> first | rfl | cases h
theorem Weak.names {s s1 : St} (h : Weak s s1) (hn : Names s1.fr s1.hp s1.nx) : Names s.fr s.hp s.nx := by
  refine ⟨fun r hr i hi => ?_, fun id o ho => ?_⟩
  · obtain ⟨k, hk⟩ := List.mem_iff_getElem?.1 hr
    rcases h.fr k r hk with hd | ⟨r1, h1, h2⟩
    · rw [dead_ids hd] at hi; cases hi
    · have : r.ids = r1.ids := by rw [← RV.unk_ids r, h2, RV.unk_ids]
      rw [this] at hi
      exact Nat.lt_of_lt_of_le (hn.fr r1 (List.mem_of_getElem? h1) i hi) h.nx
  · obtain ⟨o1, h1, h2⟩ := h.hp id o ho
    have : o.ids = o1.ids := by rw [← HO.unk_ids o, h2, HO.unk_ids]
    exact ⟨Nat.lt_of_lt_of_le (hn.hp id o1 h1).1 h.nx, fun i hi => by rw [this] at hi; exact Nat.lt_of_lt_of_le ((hn.hp id o1 h1).2 i hi) h.nx⟩
theorem unk_of {e : Env} {w : World} {id : Nat} {o o' : HO} (h : o.unk = o'.unk) : (o'.holds e w id ↔ o.holds e w id) ∧ (∀ b, o'.owns e id b ↔ o.owns e id b) ∧ ∀ b, o'.foot e id b ↔ o.foot e id b :=
  ⟨by rw [← HO.unk_holds (o := o), h, HO.unk_holds], fun b => by rw [← HO.unk_owns (o := o), h, HO.unk_owns], fun b => by rw [← HO.unk_foot (o := o), h, HO.unk_foot]⟩
theorem Weak.stands {n0 base : Nat} {H0 : Nat → Option HO} {s s1 : St} {e : Env} {a : Act} {w : World} (h : Weak s s1) (hs : Stands n0 base H0 s1 e a w) : Stands n0 base H0 s e a w := by
  refine ⟨by rw [h.len]; exact hs.size, fun i r hr => ?_, hs.defers, ⟨fun id o ho => ?_, fun id o ho id' o' ho' hne b hb hf => ?_⟩, fun id o b ho hid hb => ?_, fun id o b ho hid hb => ?_, fun id o ho hid => ?_⟩
  · rcases h.fr i r hr with hd | ⟨r1, h1, h2⟩
    · exact .inl hd
    · rcases hs.fr i r1 h1 with hd | hv
      · exact .inl (by rw [← RV.unk_dead (r := r), h2, RV.unk_dead]; exact hd)
      · exact .inr (by rw [hv, ← RV.unk_den e r, h2, RV.unk_den])
  · obtain ⟨o1, h1, h2⟩ := h.hp id o ho
    exact (unk_of h2).1.1 (hs.sat.holds id o1 h1)
  · obtain ⟨o1, h1, h2⟩ := h.hp id o ho
    obtain ⟨o2, h3, h4⟩ := h.hp id' o' ho'
    exact hs.sat.apart id o1 h1 id' o2 h3 hne b (((unk_of (w := w) h2).2.1 b).2 hb) (((unk_of (w := w) h4).2.2 b).2 hf)
  · obtain ⟨o1, h1, h2⟩ := h.hp id o ho
    exact (hs.own id o1 b h1 hid (((unk_of (w := w) h2).2.1 b).2 hb)).imp_right fun hw => hw.same (fun _ _ => .refl _ _) fun i hi _ => h.W i hi
  · obtain ⟨o1, h1, h2⟩ := h.hp id o ho
    exact (hs.foot id o1 b h1 hid (((unk_of (w := w) h2).2.2 b).2 hb)).imp_right (Or.imp_left fun hw => hw.same (fun _ _ => .refl _ _) fun i hi _ => h.W i hi)
  · obtain ⟨o1, h1, h2⟩ := h.hp id o ho
    obtain ⟨o0, h3, h4⟩ := hs.old id o1 h1 hid
    refine ⟨o0, h3, fun e' id' b hb => ?_⟩
    have g := h4 e' id' b (((unk_of (w := w) h2).2.2 b).2 hb)
    exact ⟨g.1, ((unk_of (w := w) h2).2.1 b).symm.trans g.2⟩
theorem CodeTo.weaken {P : Program} {n0 : Nat} {c : Code} {st s s1 : St} {ex : Ex} (hw : Weak s s1) (h : CodeTo P n0 c st (At1 ex s1)) : CodeTo P n0 c st (At1 ex s) := by
  intro hn hn0 base H0 e a w h2 hs Q hQ
  refine h hn hn0 base H0 e a w h2 hs Q fun ex' s' e' a' w' hR hn' hnx' hW' hm hs' => ?_
  obtain ⟨rfl, rfl⟩ := hR
  refine hQ ex' s e' a' w' ⟨rfl, rfl⟩ (hw.names hn') (Nat.le_trans hnx' hw.nx) (fun i hi hlt => hw.W i (hW' i hi hlt)) ⟨fun id hid => hm.agree id (hid.imp_right fun h => Nat.le_trans hw.nx h), hm.os, hm.tape, hm.output, hm.size, fun k hk hne => hm.fr k hk fun hww => hne (hww.same (fun _ _ => .refl _ _) fun i hi _ => hw.W i hi)⟩ (hw.stands hs')
theorem joinCV_ok {b : Bool} {c1 c2 c : CV} (h : joinCV b c1 c2 = some c) : c.unk = (bif b then c1 else c2).unk := by
  unfold joinCV at h
  split at h
  · split at h
    · rename_i k kd n k' kd' n' hkd
      subst hkd
      cases h
      cases k <;> cases k' <;> first | (cases b <;> rfl) | skip
      by_cases hnn : n = n'
      · subst hnn; cases b <;> simp [CV.unk]
      · cases b <;> simp [CV.unk, hnn]
    · cases h
  · cases h
    rename_i k x k' x'
    cases k <;> cases k' <;> cases x <;> cases x' <;> cases b <;> rfl
  · cases h
    cases b <;> rfl
  · cases h; cases b <;> rfl
  · cases h; cases b <;> rfl
  · rename_i i o i' o'
    cases hb : (Nat.beq i i' && Nat.beq o o') with
    | false => rw [hb] at h; cases h
    | true =>
      rw [hb] at h
      simp only [Bool.and_eq_true] at hb
      cases h
      rw [Nat.eq_of_beq_eq_true hb.1, Nat.eq_of_beq_eq_true hb.2]
      cases b <;> rfl
  · rename_i i o i' o'
    cases hb : (Nat.beq i i' && Nat.beq o o') with
    | false => rw [hb] at h; cases h
    | true =>
      rw [hb] at h
      simp only [Bool.and_eq_true] at hb
      cases h
      rw [Nat.eq_of_beq_eq_true hb.1, Nat.eq_of_beq_eq_true hb.2]
      cases b <;> rfl
  · rename_i i o l c' i' o' l' c''
    cases hb : (Nat.beq i i' && Nat.beq o o' && Nat.beq l l' && Nat.beq c' c'') with
    | false => rw [hb] at h; cases h
    | true =>
      rw [hb] at h
      simp only [Bool.and_eq_true] at hb
      cases h
      rw [Nat.eq_of_beq_eq_true hb.1.1.1, Nat.eq_of_beq_eq_true hb.1.1.2, Nat.eq_of_beq_eq_true hb.1.2, Nat.eq_of_beq_eq_true hb.2]
      cases b <;> rfl
  · rename_i i i'
    cases hb : Nat.beq i i' with
    | false => rw [hb] at h; cases h
    | true =>
      rw [hb] at h
      cases h
      rw [Nat.eq_of_beq_eq_true hb]
      cases b <;> rfl
  · split at h
    · rename_i hh
      cases h
      rw [hh.1, hh.2]
      cases b <;> rfl
    · cases h
  · cases h
theorem joinL_ok {b : Bool} : ∀ {l1 l2 l : List CV}, joinL b l1 l2 = some l → l.map CV.unk = (bif b then l1 else l2).map CV.unk := by
  intro l1
  induction l1 with
  | nil => intro l2 l h; cases l2 with
    | nil => cases h; cases b <;> rfl
    | cons => cases h
  | cons c l1 ih => intro l2 l h; cases l2 with
    | nil => cases h
    | cons c' l2 =>
      simp only [joinL] at h
      split at h
      · rename_i x y hx hy
        cases h
        have h1 := joinCV_ok hx
        have h2 := ih hy
        cases b
        · simp only [List.map_cons, cond_false] at h1 h2 ⊢; rw [h1, h2]
        · simp only [List.map_cons, cond_true] at h1 h2 ⊢; rw [h1, h2]
      · cases h
theorem joinRV_ok {b : Bool} {r1 r2 : RV} : (joinRV b r1 r2).isDead = true ∨ (joinRV b r1 r2).unk = (bif b then r1 else r2).unk := by
  unfold joinRV
  split
  · split
    · rename_i c hc
      right
      have := joinCV_ok hc
      cases b
      · simpa [RV.unk, SV.unk] using this
      · simpa [RV.unk, SV.unk] using this
    · left; rfl
  · split
    · rename_i l hl
      right
      have := joinL_ok hl
      cases b
      · simpa [RV.unk, SV.unk] using this
      · simpa [RV.unk, SV.unk] using this
    · left; rfl
  · left; rfl
theorem joinFr_ok {b : Bool} {m : Nat} : ∀ {l l1 l2 : List RV} {i : Nat}, l1.length = l.length → l2.length = l.length → unch m i l1 = unch m i l → unch m i l2 = unch m i l →
    (joinFr b m i l l1 l2).length = l.length ∧ ∀ (j : Nat) r, (joinFr b m i l l1 l2)[j]? = some r → r.isDead = true ∨ ∃ r', (bif b then l1 else l2)[j]? = some r' ∧ r.unk = r'.unk := by
  intro l
  induction l with
  | nil => intro l1 l2 i h1 h2 _ _; exact ⟨rfl, fun j r h => by simp [joinFr] at h⟩
  | cons x l ih =>
    intro l1 l2 i h1 h2 h3 h4
    cases l1 with
    | nil => cases h1
    | cons x1 l1 => cases l2 with
      | nil => cases h2
      | cons x2 l2 =>
        simp only [unch, List.cons.injEq] at h3 h4
        obtain ⟨k1, k2⟩ := ih (i := i + 1) (by simpa using h1) (by simpa using h2) h3.2 h4.2
        refine ⟨by simp [joinFr, k1], fun j r hr => ?_⟩
        cases j with
        | zero =>
          simp only [joinFr, List.getElem?_cons_zero, Option.some.injEq] at hr
          subst hr
          cases hb : mBit m i with
          | true =>
            simp only [cond_true]
            rcases joinRV_ok (b := b) (r1 := x1) (r2 := x2) with h | h
            · exact .inl h
            · right
              cases b
              · exact ⟨x2, rfl, h⟩
              · exact ⟨x1, rfl, h⟩
          | false =>
            rw [hb] at h3 h4
            simp only [cond_false] at h3 h4 ⊢
            right
            cases b
            · exact ⟨x2, rfl, by rw [h4.1]⟩
            · exact ⟨x1, rfl, by rw [h3.1]⟩
        | succ j =>
          simp only [joinFr, List.getElem?_cons_succ] at hr
          have := k2 j r hr
          cases b
          · simpa using this
          · simpa using this
theorem joinCells_ok {b : Bool} {ch : Nat → Bool} : ∀ {l l1 l2 r : List CV} {j : Nat}, joinCells b ch j l l1 l2 = some r → maskC ch j l1 = maskC ch j l → maskC ch j l2 = maskC ch j l → r.map CV.unk = (bif b then l1 else l2).map CV.unk := by
  intro l
  induction l with
  | nil => intro l1 l2 r j h _ _; cases l1 with
    | nil => cases l2 with
      | nil => cases h; cases b <;> rfl
      | cons => cases h
    | cons => cases l2 <;> cases h
  | cons c l ih => intro l1 l2 r j h h1 h2; cases l1 with
    | nil => cases l2 <;> cases h
    | cons c1 l1 => cases l2 with
      | nil => cases h
      | cons c2 l2 =>
        simp only [joinCells] at h
        split at h
        · rename_i x y hx hy
          cases h
          simp only [maskC, List.cons.injEq] at h1 h2
          have h3 := ih hy h1.2 h2.2
          have h4 : x.unk = (bif b then c1 else c2).unk := by
            cases hc : ch j with
            | true => rw [hc] at hx; exact joinCV_ok hx
            | false =>
              rw [hc] at hx h1 h2
              simp only [cond_false, Option.some.injEq] at hx h1 h2
              subst hx
              cases b
              · simp only [cond_false]; rw [h2.1]
              · simp only [cond_true]; rw [h1.1]
          cases b
          · simp only [List.map_cons, cond_false] at h3 h4 ⊢; rw [h3, h4]
          · simp only [List.map_cons, cond_true] at h3 h4 ⊢; rw [h3, h4]
        · cases h
theorem joinHO_ok {b : Bool} {ch : Nat → Bool} {o0 o1 o2 o : HO} {l r : List Item} (h : joinHO b ch o0 o1 o2 = some (o, l, r)) : l.length = r.length ∧ (l = r → o.unk = (bif b then o1 else o2).unk) := by
  unfold joinHO at h
  split at h
  · rename_i cs t cs1 t1 cs2 t2
    cases hb : (Nat.beq t t1 && Nat.beq t t2) with
    | false => rw [hb] at h; cases h
    | true =>
      rw [hb] at h
      simp only [cond_true] at h
      simp only [Bool.and_eq_true] at hb
      split at h
      · rename_i y hy
        cases h
        refine ⟨rfl, fun hlr => ?_⟩
        simp only [List.cons.injEq, Item.st.injEq, HO.cells.injEq, and_true, true_and] at hlr
        have := joinCells_ok hy hlr.1 hlr.2
        obtain rfl := Nat.eq_of_beq_eq_true hb.1
        obtain rfl := Nat.eq_of_beq_eq_true hb.2
        cases b
        · simpa [HO.unk] using this
        · simpa [HO.unk] using this
      · cases h
  · rename_i sh t l0 sh1 t1 l1 sh2 t2 l2
    cases hb : (shEqL sh1 sh && shEqL sh2 sh && Nat.beq t1 t && Nat.beq t2 t) with
    | false => rw [hb] at h; cases h
    | true =>
      rw [hb] at h
      simp only [cond_true, Option.some.injEq, Prod.mk.injEq] at h
      simp only [Bool.and_eq_true] at hb
      obtain ⟨rfl, rfl, rfl⟩ := h
      refine ⟨rfl, fun _ => ?_⟩
      rw [shEqL_spec hb.1.1.1, shEqL_spec hb.1.1.2, Nat.eq_of_beq_eq_true hb.1.2, Nat.eq_of_beq_eq_true hb.2]
      cases b <;> rfl
  · cases h
    exact ⟨rfl, fun _ => by cases b <;> rfl⟩
  · cases h
theorem joinHp_ok {b : Bool} {hp hp1 hp2 pre : Hp} : ∀ {ids : List Nat} {J : Hp} {l r : List Item}, joinHp b hp hp1 hp2 pre ids = some (J, l, r) → l.length = r.length ∧ (l = r →
    (∀ id o, hlook J id = some o → ∃ o', hlook (bif b then hp1 else hp2) id = some o' ∧ o.unk = o'.unk) ∧ ∀ id ∈ ids, ∃ o, hlook J id = some o) := by
  intro ids
  induction ids with
  | nil => intro J l r h; cases h; exact ⟨rfl, fun _ => ⟨fun id o h => (by simp [hlook] at h), fun id h => (by cases h)⟩⟩
  | cons i ids ih =>
    intro J l r h
    simp only [joinHp] at h
    split at h
    · rename_i o0 o1 o2 g0 g1 g2
      split at h
      · rename_i o l1 r1 J1 k1 k2 hj hr
        cases h
        obtain ⟨a1, a2⟩ := joinHO_ok hj
        obtain ⟨b1, b2⟩ := ih hr
        refine ⟨by simp [a1, b1], fun hlr => ?_⟩
        obtain ⟨e1, e2⟩ := List.append_inj hlr a1
        have hu := a2 e1
        obtain ⟨c1, c2⟩ := b2 e2
        refine ⟨fun id o' ho' => ?_, fun id hid => ?_⟩
        · simp only [hlook] at ho'
          cases hb : Nat.beq i id with
          | true =>
            rw [hb] at ho'
            cases ho'
            obtain rfl := Nat.eq_of_beq_eq_true hb
            cases b
            · exact ⟨o2, g2, hu⟩
            · exact ⟨o1, g1, hu⟩
          | false => rw [hb] at ho'; exact c1 id o' ho'
        · simp only [hlook]
          cases hb : Nat.beq i id with
          | true => exact ⟨o, rfl⟩
          | false =>
            rcases List.mem_cons.1 hid with rfl | hid
            · rw [Nat.beq_refl] at hb; cases hb
            · exact c2 id hid
      · cases h
    · cases h
theorem addIds_ok {n : Nat} : ∀ {l : Hp} {acc : List Nat}, (∀ i ∈ acc, i ∈ addIds n l acc) ∧ ∀ p ∈ l, p.1 < n → p.1 ∈ addIds n l acc := by
  intro l
  induction l with
  | nil => intro acc; exact ⟨fun i hi => hi, fun p hp => (by cases hp)⟩
  | cons q l ih =>
    intro acc
    simp only [addIds]
    cases hb : (!Nat.blt q.1 n || acc.any (Nat.beq q.1)) with
    | true =>
      simp only [cond_true]
      refine ⟨ih.1, fun p hp hlt => ?_⟩
      rcases List.mem_cons.1 hp with rfl | hp
      · simp only [Bool.or_eq_true, Bool.not_eq_true'] at hb
        rcases hb with hb | hb
        · have : Nat.blt p.1 n = true := Nat.ble_eq_true_of_le hlt
          rw [this] at hb; cases hb
        · obtain ⟨q, hq, hbq⟩ := List.any_eq_true.1 hb
          rw [Nat.eq_of_beq_eq_true hbq]
          exact ih.1 q hq
      · exact ih.2 p hp hlt
    | false =>
      simp only [cond_false]
      refine ⟨fun i hi => ih.1 i (List.mem_cons_of_mem _ hi), fun p hp hlt => ?_⟩
      rcases List.mem_cons.1 hp with rfl | hp
      · exact ih.1 _ List.mem_cons_self
      · exact ih.2 p hp hlt
theorem joinAll_ok {P : Program} {n0 : Nat} {c : Operand} {b k : Bool} {x y : Code} {st s1 s2 : St} {R1 R2 : JR} {j : JRes} (hc : opnd st.fr c = .sv (.one (.val k (.bool b)))) (hn : Names st.fr st.hp st.nx) (h : joinAll c b x y st R1 R2 s1 s2 = some j) (hlr : j.l = j.r) (hob : ∀ o, j.obs = some o → o = true)
    (h1 : b = true → R1.l = R1.r → (∀ o, R1.obs = some o → o = true) → CodeTo P n0 x (decSt st c true) (At1 .normal s1) ∧ (Names s1.fr s1.hp s1.nx ∧ (decSt st c true).nx ≤ s1.nx))
    (h2 : b = false → R2.l = R2.r → (∀ o, R2.obs = some o → o = true) → CodeTo P n0 y (decSt st c false) (At1 .normal s2) ∧ (Names s2.fr s2.hp s2.nx ∧ (decSt st c false).nx ≤ s2.nx)) :
    CodeTo P n0 (.cond c x y) st (At1 .normal j.s) ∧ (Names j.s.fr j.s.hp j.s.nx ∧ st.nx ≤ j.s.nx) := by
  unfold joinAll at h
  simp only [fN_eq, fL_eq fE fE_eq, fL_eq fN fN_eq] at h
  cases hb : (Nat.beq s1.fr.length st.fr.length && Nat.beq s2.fr.length st.fr.length && Nat.beq R1.l.length R1.r.length && Nat.beq R2.l.length R2.r.length) with
  | false => rw [hb] at h; cases h
  | true =>
    rw [hb] at h
    simp only [cond_true] at h
    simp only [Bool.and_eq_true] at hb
    obtain ⟨⟨⟨b1, b2⟩, b3⟩, b4⟩ := hb
    have b1 := Nat.eq_of_beq_eq_true b1
    have b2 := Nat.eq_of_beq_eq_true b2
    have b3 := Nat.eq_of_beq_eq_true b3
    have b4 := Nat.eq_of_beq_eq_true b4
    split at h
    · rename_i J jl jr hJ
      cases h
      simp only [List.cons.injEq, Item.st.injEq, Item.hp.injEq, and_true] at hlr
      obtain ⟨e1, e2, e3, e4, e5⟩ := hlr
      obtain ⟨e6, e7⟩ := List.append_inj e5 b3
      obtain ⟨e8, e9⟩ := List.append_inj e7 b4
      obtain ⟨_, hJ⟩ := joinHp_ok hJ
      obtain ⟨hJ1, hJ2⟩ := hJ e9
      have hfr := joinFr_ok (b := b) b1 b2 e1 e2
      have hlook1 : ∀ (s : St), s.hp.drop (s.hp.length - st.hp.length) = st.hp → (∀ p ∈ s.hp.take (s.hp.length - st.hp.length), p ∈ s1.hp.take (s1.hp.length - st.hp.length) ++ s2.hp.take (s2.hp.length - st.hp.length)) →
          ∀ id o, hlook st.hp id = some o → (∀ o', hlook J id ≠ some o') → hlook s.hp id = some o := by
        intro s hd hsub id o ho hne
        rw [← List.take_append_drop (s.hp.length - st.hp.length) s.hp, hd, hlook_append]
        cases hl : hlook (s.hp.take (s.hp.length - st.hp.length)) id with
        | none => exact ho
        | some o' =>
          have hm := hsub _ (hlook_mem hl)
          obtain ⟨o'', ho''⟩ := hJ2 id (addIds_ok.2 _ hm (hn.hp id o ho).1)
          exact absurd ho'' (hne o'')
      have main : ∀ s, (bif b then s1 else s2) = s → s.hp.drop (s.hp.length - st.hp.length) = st.hp → (∀ p ∈ s.hp.take (s.hp.length - st.hp.length), p ∈ s1.hp.take (s1.hp.length - st.hp.length) ++ s2.hp.take (s2.hp.length - st.hp.length)) → s.fr.length = st.fr.length →
          s.nx ≤ Nat.max s1.nx s2.nx → (∀ i ∈ s.W, i ∈ s1.W ++ s2.W) → Weak ⟨joinFr b (dm y (dm x (opBit c))) 0 st.fr s1.fr s2.fr, J ++ st.hp, Nat.max s1.nx s2.nx, s1.W ++ s2.W⟩ s := by
        intro s hs hd hsub hlen hnx hW
        refine ⟨by rw [hlen]; exact hfr.1, fun i r hr => ?_, fun id o ho => ?_, hnx, hW⟩
        · have := hfr.2 i r hr
          rw [← hs]
          cases b
          · exact this
          · exact this
        · simp only [hlook_append] at ho
          cases hl : hlook J id with
          | some o' =>
            rw [hl] at ho
            cases ho
            have := hJ1 id _ hl
            rw [← hs]
            cases b
            · exact this
            · exact this
          | none =>
            rw [hl] at ho
            exact ⟨o, hlook1 s hd hsub id o ho (fun o' h => by rw [hl] at h; cases h), rfl⟩
      have hdec : st.nx ≤ (decSt st c b).nx := by rw [decSt_nx]; omega
      cases b with
      | true =>
        obtain ⟨k1, k2, k3⟩ := h1 rfl e6 (fun o ho => by
          cases h2' : R2.obs with
          | none => exact hob o (by rw [ho, h2']; rfl)
          | some o2 => exact hob o (by rw [ho, h2']; rfl))
        have hw := main s1 rfl e3 (fun p hp => List.mem_append_left _ hp) b1 (Nat.le_max_left _ _) (fun i hi => List.mem_append_left _ hi)
        exact ⟨.cond hc (.dec hc (k1.weaken hw)), hw.names k2, Nat.le_trans hdec (Nat.le_trans k3 hw.nx)⟩
      | false =>
        obtain ⟨k1, k2, k3⟩ := h2 rfl e8 (fun o ho => by
          cases h2' : R1.obs with
          | none => exact hob o (by rw [ho, h2']; rfl)
          | some o2 => exact hob o (by rw [ho, h2']; rfl))
        have hw := main s2 rfl e4 (fun p hp => List.mem_append_right _ hp) b2 (Nat.le_max_right _ _) (fun i hi => List.mem_append_right _ hi)
        exact ⟨.cond hc (.dec hc (k1.weaken hw)), hw.names k2, Nat.le_trans hdec (Nat.le_trans k3 hw.nx)⟩
    · cases h
theorem jnN_ok {P : Program} {facts : Nat → Option (Bool × Bool)} (hf : FactsOk facts) {call : CallF JR} {call' : CallF Prop} (hcall : CallsOk P call') (hc : ∀ p, GSim (JR.is p) call call') {hook : Nat → Nat → Option (LoopCon P)} {n0 : Nat} {am : Mode} : ∀ d, JnOk P n0 (jnN P facts call hook n0 am d) := by
  intro d
  induction d with
  | zero => intro c b k x y st j _ _ h; cases h
  | succ d ih =>
    intro c b k x y st j hop hn h hlr hob
    have way : ∀ (z : Code) (v : Bool) (l r : List Item) (o : Option Bool) (ex : Ex) (s : St), evCode algJ P facts call hook (jnN P facts call hook n0 am d) n0 am z (decSt st c v) (fun ex s => ⟨[], [], none, some (ex, s)⟩) = ⟨l, r, o, some (ex, s)⟩ →
        l = r → (∀ q, o = some q → q = true) → CodeTo P n0 z (decSt st c v) (At1 ex s) ∧ (Names s.fr s.hp s.nx ∧ (decSt st c v).nx ≤ s.nx) := by
      intro z v l r o ex s he hl ho
      obtain ⟨ex', s', g1, g2, g3⟩ := evCode_ok hf hcall ih z (decSt st c v) (fun ex' s' => (ex', s') = (ex, s)) (decSt_names hn) (gsim_code (sound_J (ex, s)) (hc (ex, s)) z (decSt st c v) (fun ex s => ⟨[], [], none, some (ex, s)⟩) _ (fun ex' s' hg => by
        have h3 : some (ex', s') = some (ex, s) := hg.2.2
        exact Option.some.inj h3) (by rw [he]; exact ⟨hl, ho, rfl⟩))
      cases g3
      exact ⟨g1, g2⟩
    simp only [jnN, fSt_eq] at h
    split at h
    · rename_i l1 r1 k1 s1 l2 r2 k2 s2 hx hy
      exact joinAll_ok hop hn h hlr hob (fun _ e o => way x true l1 r1 k1 .normal s1 hx e o) (fun _ e o => way y false l2 r2 k2 .normal s2 hy e o)
    · cases h
end Go.Proofs.Ythgneojhhocflaa
