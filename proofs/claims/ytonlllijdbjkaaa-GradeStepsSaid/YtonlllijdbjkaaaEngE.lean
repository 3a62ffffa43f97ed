/- EngJ, Eng11, Eng12, Eng13, Eng14, laid together. No condition. -/
import Derived.Test.YtonlllijdbjkaaaEngD
/- A symbolic way through the code of a call: any sound algebra serves; two ways that meet again. No condition. -/
set_option linter.unusedVariables false
namespace Go.Proofs.Ytonlllijdbjkaaa
open Go.RowKit

/-! ### Any algebra that is sound serves for the proposition -/
/-- T: a good outcome. -/
structure Sound {R : Type} (A : Alg R) (T : R → Prop) : Prop where
  fail : ¬ T A.fail
  ob : ∀ {n b r}, T (A.ob n b r) → b = true ∧ T r
  eqI : ∀ {x y r}, T (A.eqI x y r) → x = y ∧ T r
  br : ∀ {n b r r'}, T (A.br n b r r') → (b = true → T r) ∧ (b = false → T r')
def GSim {R : Type} (T : R → Prop) (call : CallF R) (call' : CallF Prop) : Prop := ∀ f args hp nx (K : Out → R) (K' : Out → Prop), (∀ out, T (K out) → K' out) → T (call f args hp nx K) → call' f args hp nx K'
section
variable {R : Type} {A : Alg R} {T : R → Prop} {P : Program} {facts : Nat → Option (Bool × Bool)}
theorem gsim_eqL (hA : Sound A T) : ∀ {l r : List Item} {K : R} {K' : Prop}, (T K → K') → T (eqL A l r K) → eqL algP l r K' := by
  intro l
  induction l with
  | nil => intro r K K' hK h; cases r with
    | nil => exact hK h
    | cons y r => exact absurd h hA.fail
  | cons x l ih => intro r K K' hK h; cases r with
    | nil => exact absurd h hA.fail
    | cons y r => exact ⟨(hA.eqI h).1, ih hK (hA.eqI h).2⟩
theorem gsim_ob (hA : Sound A T) {nx : Nat} {o : Option Bool} {K : R} {K' : Prop} (hK : T K → K') (h : T (obO A nx o K)) : obO algP nx o K' := by
  cases o with
  | none => exact hK h
  | some b => exact ⟨(hA.ob h).1, hK (hA.ob h).2⟩
theorem gsim_settle (hA : Sound A T) {nx : Nat} {b : Bool} {r : R} {q : Prop} (hr : T r → q) (h : T (settle A facts nx b r)) : settle algP facts nx b q := by
  unfold settle at h ⊢
  split
  · rename_i b hb
    rw [hb] at h
    exact ⟨(hA.eqI h).1, hr (hA.eqI h).2⟩
  · rename_i hne
    split at h
    · rename_i b hb; exact absurd hb (hne b)
    · exact ⟨(hA.ob h).1, hr (hA.ob h).2⟩
theorem gsim_simple (hA : Sound A T) {o : Oper} {get : Operand → RV} {hp : Hp} {nx : Nat} {K : Out → R} {K' : Out → Prop} (hK : ∀ out, T (K out) → K' out) (h : T (evSimple A P facts o get hp nx K)) : evSimple algP P facts o get hp nx K' := by
  unfold evSimple at h ⊢
  split
  · rename_i b out hout
    rw [hout] at h
    exact gsim_settle hA (hK _) h
  · rename_i h0
    rw [h0] at h
    simp only at h
    split
    · rename_i out hout
      rw [hout] at h
      exact hK _ h
    · rename_i h1
      rw [h1] at h
      simp only at h
      split
      · rename_i out hout
        rw [hout] at h
        simp only at h
        cases hb : out.up.all (fun p => p.2.ids.all (fun i => Nat.blt i nx)) with
        | false => rw [hb] at h; exact absurd h hA.fail
        | true => rw [hb] at h; exact hK _ h
      · rename_i hout
        rw [hout] at h
        exact absurd h hA.fail
theorem gsim_meet (hA : Sound A T) {nx : Nat} {b : Bool} {K : Bool → R} {K' : Bool → Prop} (hK : ∀ d, T (K d) → K' d) (h : T (meet A facts nx b K)) : meet algP facts nx b K' := by
  unfold meet at h ⊢
  split
  · rename_i b' d hb
    rw [hb] at h
    exact ⟨(hA.eqI h).1, hK _ (hA.eqI h).2⟩
  · rename_i hb
    rw [hb] at h
    exact ⟨fun h1 => hK _ ((hA.br h).1 h1), fun h1 => hK _ ((hA.br h).2 h1)⟩
theorem gsim_eq (hA : Sound A T) {o : Oper} {get : Operand → RV} {hp : Hp} {nx : Nat} {t : TypeId} {x y : Operand} {K : Out → R} {K' : Out → Prop} (hK : ∀ out, T (K out) → K' out) (h : T (evEq A P facts o get hp nx t x y K)) : evEq algP P facts o get hp nx t x y K' := by
  unfold evEq at h ⊢
  split
  · rename_i b d' h1 h2
    rw [h1, h2] at h
    refine gsim_meet hA (fun d h => ?_) h
    split
    · rename_i hu
      rw [hu] at h
      exact hK _ h
    · rename_i hne
      split at h
      · rename_i hu; exact absurd hu hne
      · exact absurd h hA.fail
  · rename_i d' b h1 h2
    rw [h1, h2] at h
    refine gsim_meet hA (fun d h => ?_) h
    split
    · rename_i hu
      rw [hu] at h
      exact hK _ h
    · rename_i hne
      split at h
      · rename_i hu; exact absurd hu hne
      · exact absurd h hA.fail
  · rename_i s s' hne0 hne1 h1 h2
    rw [h1, h2] at h
    split at h
    · rename_i b d' g1 g2
      cases g1
      cases g2
      exact absurd rfl (hne0 _ _ rfl)
    · rename_i b d' g1 g2
      cases g1
      cases g2
      exact absurd rfl (hne1 _ _ rfl)
    rotate_left
    · rename_i g1; exact absurd rfl (fun h => g1 _ _ rfl h)
    rename_i g0 g3 g1 g2
    cases g1
    cases g2
    cases hb : (s.ids.isEmpty && s'.ids.isEmpty && !P.eqGuardType P.depth t) with
    | false => rw [hb] at h; exact absurd h hA.fail
    | true =>
      rw [hb] at h
      simp only [cond_true] at h ⊢
      split
      · rename_i b hbb
        rw [hbb] at h
        exact ⟨(hA.eqI h).1, hK _ (hA.eqI h).2⟩
      · rename_i hbb
        rw [hbb] at h
        exact absurd h hA.fail
  · rename_i hne0 hne1 hne
    split at h
    · rename_i b d' h1 h2; exact absurd h2 (hne0 _ _ h1)
    · rename_i b d' h1 h2; exact absurd h2 (hne1 _ _ h1)
    · rename_i s s' h0 h3 h1 h2; exact absurd h2 (hne _ _ h1)
    · exact absurd h hA.fail
theorem gsim_pick (hA : Sound A T) {nx : Nat} {K : Out → R} {K' : Out → Prop} (hK : ∀ out, T (K out) → K' out) : ∀ {l : List (Bool × Out)}, T (pickAlt A facts nx K l) → pickAlt algP facts nx K' l := by
  intro l
  induction l with
  | nil => intro h; exact absurd h hA.fail
  | cons p r ih =>
    intro h
    cases r with
    | nil => exact gsim_settle hA (hK p.2) h
    | cons q r =>
      refine gsim_meet hA (fun d hd => ?_) h
      cases d with
      | true => exact hK _ hd
      | false => exact ih hd
theorem gsim_op0 (hA : Sound A T) {call : CallF R} {call' : CallF Prop} (hc : GSim T call call') {am : Mode} {o : Oper} {get : Operand → RV} {hp : Hp} {nx : Nat} {K : Out → R} {K' : Out → Prop} (hK : ∀ out, T (K out) → K' out) (h : T (evOp0 A P facts call am o get hp nx K)) : evOp0 algP P facts call' am o get hp nx K' := by
  unfold evOp0 at h ⊢
  split
  · rename_i c ho
    rw [ho] at h
    simp only at h
    split
    · rename_i g fs caps hcal
      rw [hcal] at h
      simp only at h
      cases hg : goesIn P g with
      | false => rw [hg] at h; exact absurd h hA.fail
      | true => rw [hg] at h; exact hc _ _ _ _ _ _ hK h
    · rename_i hcal
      rw [hcal] at h
      exact gsim_simple hA hK h
  · rename_i t x y yt ho
    rw [ho] at h
    simp only at h
    cases hm : am.am with
    | true => rw [hm] at h; exact gsim_eq hA (o := o) (hp := hp) hK h
    | false => rw [hm] at h; exact gsim_simple hA hK h
  · rename_i t n ps ho
    rw [ho] at h
    simp only at h
    cases hm : am.rows with
    | true =>
      rw [hm] at h
      simp only [cond_true] at h ⊢
      split
      · rename_i out hout; rw [hout] at h; exact hK _ h
      · rename_i hout; rw [hout] at h; exact gsim_simple hA hK h
    | false => rw [hm] at h; exact gsim_simple hA hK h
  · rename_i t x ho
    rw [ho] at h
    simp only at h
    cases hm : am.rows with
    | true =>
      rw [hm] at h
      simp only [cond_true] at h ⊢
      split
      · rename_i out hout; rw [hout] at h; exact hK _ h
      · rename_i hout; rw [hout] at h; exact gsim_simple hA hK h
    | false => rw [hm] at h; exact gsim_simple hA hK h
  · rename_i t ho
    rw [ho] at h
    simp only at h
    cases hm : am.rows with
    | true =>
      rw [hm] at h
      simp only [cond_true] at h ⊢
      split
      · rename_i out hout; rw [hout] at h; exact hK _ h
      · rename_i hout; rw [hout] at h; exact gsim_simple hA hK h
    | false => rw [hm] at h; exact gsim_simple hA hK h
  · rename_i h1 h3 h4 h5 h6
    split at h
    · rename_i c ho; exact absurd ho (h1 c)
    · rename_i t x y yt ho; exact absurd ho (h3 t x y yt)
    · rename_i t n ps ho; exact absurd ho (h4 t n ps)
    · rename_i t x ho; exact absurd ho (h5 t x)
    · rename_i t ho; exact absurd ho (h6 t)
    · cases hm : am.rows with
      | true =>
        rw [hm] at h
        simp only [cond_true] at h ⊢
        split
        · rename_i l hl; rw [hl] at h; exact gsim_pick hA hK h
        · rename_i hl; rw [hl] at h; exact gsim_simple hA hK h
      | false => rw [hm] at h; exact gsim_simple hA hK h
theorem gsim_op (hA : Sound A T) {call : CallF R} {call' : CallF Prop} (hc : GSim T call call') {am : Mode} {kp : Bool} {o : Oper} {get : Operand → RV} {hp : Hp} {nx : Nat} {K : Out → R} {K' : Out → Prop} (hK : ∀ out, T (K out) → K' out) (h : T (evOp A P facts call am kp o get hp nx K)) : evOp algP P facts call' am kp o get hp nx K' :=
  gsim_op0 (K := fun out => K (bif kp then out.keep hp else out)) (K' := fun out => K' (bif kp then out.keep hp else out)) hA hc (fun out => hK _) h
theorem gsim_decide (hA : Sound A T) {g : Bool} {nx : Nat} {v : RV} {K : RV → Nat → R} {K' : RV → Nat → Prop} (hK : ∀ v n, T (K v n) → K' v n) (h : T (decideRV A facts g nx v K)) : decideRV algP facts g nx v K' := by
  unfold decideRV at h ⊢
  split
  · exact gsim_meet hA (fun d => hK _ _) h
  · rename_i hne
    split at h
    · rename_i b; exact absurd rfl (hne b rfl)
    · exact hK _ _ h
theorem gsim_ops (hA : Sound A T) {call : CallF R} {call' : CallF Prop} (hc : GSim T call call') {am : Mode} {ops : Array Oper} : ∀ (l : List Oper) (fr : List RV) (hp : Hp) (nx : Nat) (trs : List Tr) (K : List RV → Hp → Nat → List Tr → R) (K' : List RV → Hp → Nat → List Tr → Prop),
    (∀ a b c d, T (K a b c d) → K' a b c d) → T (evOps A P facts call am ops l fr hp nx trs K) → evOps algP P facts call' am ops l fr hp nx trs K' := by
  intro l
  induction l with
  | nil => intro fr hp nx trs K K' hK h; exact hK _ _ _ _ h
  | cons o rest ih =>
    intro fr hp nx trs K K' hK h
    have run : ∀ (Rs : List Nat), T (evOp A P facts call am (kpOf o rest) o (opnd fr) (restrict hp Rs) nx fun out =>
        bif okOut (restrict hp Rs) nx out.v out.up out.nx out.W && boundOk o.dst fr.length then
          decideRV A facts (isGuard ops.toList trs.length) out.nx out.v fun v nx' =>
            evOps A P facts call am ops rest (putL fr o.dst v) (out.up ++ hp) nx' (⟨o.dst, v, out.up, out.W, Rs, nx, nx', looksOf ops o⟩ :: trs) K
        else A.fail) → evOp algP P facts call' am (kpOf o rest) o (opnd fr) (restrict hp Rs) nx fun out =>
        bif okOut (restrict hp Rs) nx out.v out.up out.nx out.W && boundOk o.dst fr.length then
          decideRV algP facts (isGuard ops.toList trs.length) out.nx out.v fun v nx' =>
            evOps algP P facts call' am ops rest (putL fr o.dst v) (out.up ++ hp) nx' (⟨o.dst, v, out.up, out.W, Rs, nx, nx', looksOf ops o⟩ :: trs) K'
        else algP.fail := by
      intro Rs hr
      refine gsim_op hA hc (fun out h => ?_) hr
      cases hb : (okOut (restrict hp Rs) nx out.v out.up out.nx out.W && boundOk o.dst fr.length) with
      | false => rw [hb] at h; exact absurd h hA.fail
      | true =>
        rw [hb] at h
        simp only [cond_true] at h ⊢
        exact gsim_decide hA (fun v n h => ih _ _ _ _ K K' hK h) h
    have run' : ∀ (Rs : List Nat), T (bif liveOps fr o then (evOp A P facts call am (kpOf o rest) o (opnd fr) (restrict hp Rs) nx fun out =>
        bif okOut (restrict hp Rs) nx out.v out.up out.nx out.W && boundOk o.dst fr.length then
          decideRV A facts (isGuard ops.toList trs.length) out.nx out.v fun v nx' =>
            evOps A P facts call am ops rest (putL fr o.dst v) (out.up ++ hp) nx' (⟨o.dst, v, out.up, out.W, Rs, nx, nx', looksOf ops o⟩ :: trs) K
        else A.fail) else A.fail) → (bif liveOps fr o then (evOp algP P facts call' am (kpOf o rest) o (opnd fr) (restrict hp Rs) nx fun out =>
        bif okOut (restrict hp Rs) nx out.v out.up out.nx out.W && boundOk o.dst fr.length then
          decideRV algP facts (isGuard ops.toList trs.length) out.nx out.v fun v nx' =>
            evOps algP P facts call' am ops rest (putL fr o.dst v) (out.up ++ hp) nx' (⟨o.dst, v, out.up, out.W, Rs, nx, nx', looksOf ops o⟩ :: trs) K'
        else algP.fail) else algP.fail) := by
      intro Rs hr
      cases hl : liveOps fr o with
      | false => rw [hl] at hr; exact absurd hr hA.fail
      | true => rw [hl] at hr; exact run Rs hr
    simp only [evOps, fL_eq fN fN_eq, fL_eq fE fE_eq, fL_eq fId fun _ _ => rfl, fRV_eq, fN_eq] at h ⊢
    split
    · rename_i hgd
      rw [hgd] at h
      exact run' _ h
    · rename_i g want hgd
      rw [hgd] at h
      simp only at h
      split
      · rename_i s hs
        rw [hs] at h
        simp only at h
        split
        · rename_i k b hfr
          rw [hfr] at h
          simp only at h
          cases hbw : (b == want) with
          | true => rw [hbw] at h; exact run' _ h
          | false =>
            rw [hbw] at h
            simp only [cond_false] at h ⊢
            cases hb : boundOk o.dst fr.length with
            | false => rw [hb] at h; exact absurd h hA.fail
            | true => rw [hb] at h; exact ih _ _ _ _ K K' hK h
        · rename_i hfr
          rw [hfr] at h
          simp only at h
          cases hb : boundOk o.dst fr.length with
          | false => rw [hb] at h; exact absurd h hA.fail
          | true => rw [hb] at h; exact ih _ _ _ _ K K' hK h
        · rename_i hne hne2
          split at h
          · rename_i k b hfr; exact absurd hfr (hne k b)
          · rename_i hfr; exact absurd hfr hne2
          · exact absurd h hA.fail
      · rename_i hs
        rw [hs] at h
        exact absurd h hA.fail
theorem gsim_LR (hA : Sound A T) {m : Nat} : ∀ (r : LR) (n : Nat) (K : Ex → St → R) (K' : Ex → St → Prop), (∀ e s, T (K e s) → K' e s) → T (evLR A facts m r n K) → evLR algP facts m r n K' := by
  intro r
  induction r with
  | one ex s =>
    intro n K K' hK h
    simp only [evLR] at h ⊢
    cases hb : (namesB s && Nat.ble m s.nx) with
    | false => rw [hb] at h; exact absurd h hA.fail
    | true => rw [hb] at h; exact hK _ _ h
  | br b x y ihx ihy =>
    intro n K K' hK h
    refine gsim_meet hA (fun d h => ?_) h
    cases d with
    | true => exact ihx _ K K' hK h
    | false => exact ihy _ K K' hK h
theorem gsim_land (hA : Sound A T) {n0 : Nat} {rn : List (Nat × Option Nat)} {S s : St} {K : R} {K' : Prop} (hK : T K → K') (h : T (evLand A n0 rn S s K)) : evLand algP n0 rn S s K' := by
  unfold evLand at h ⊢
  cases hb : landB n0 rn S s with
  | false => rw [hb] at h; exact absurd h hA.fail
  | true =>
    rw [hb] at h
    simp only [cond_true] at h ⊢
    split
    · rename_i p hp
      rw [hp] at h
      exact ⟨(hA.eqI h).1, hK (hA.eqI h).2⟩
    · rename_i hp
      rw [hp] at h
      exact absurd h hA.fail
theorem gsim_code (hA : Sound A T) {call : CallF R} {call' : CallF Prop} (hc : GSim T call call') {am : Mode} {n0 : Nat} {hook : Nat → St → Option (LoopCon P)} {jn : JoinF} : ∀ (c : Code) (st : St) (K : Ex → St → R) (K' : Ex → St → Prop), (∀ e s, T (K e s) → K' e s) →
    T (evCode A P facts call hook jn n0 am c st K) → evCode algP P facts call' hook jn n0 am c st K' := by
  intro c
  induction c with
  | skip => intro st K K' hK h; exact hK _ _ h
  | label l => intro st K K' hK h; exact hK _ _ h
  | exit id => intro st K K' hK h; exact hK _ _ h
  | ret => intro st K K' hK h; exact hK _ _ h
  | region id ops draw =>
    intro st K K' hK h
    simp only [evCode] at h ⊢
    cases hjn : jn.r ops draw st with
    | some j =>
      rw [hjn] at h
      simp only [fL_eq fRV fRV_eq, fL_eq fE fE_eq, fN_eq, fL_eq fN fN_eq] at h ⊢
      exact gsim_eqL hA (gsim_ob hA (hK _ _)) h
    | none =>
    rw [hjn] at h
    simp only at h ⊢
    refine gsim_ops hA hc _ _ _ _ _ _ _ (fun fr hp nx trs h => ?_) h
    cases hb : (!draw || (P.follows .mixedOrders && edgesBack ops.toList 0 && chkAll trs (masks ops.toList []))) with
    | false => rw [hb] at h; exact absurd h hA.fail
    | true => rw [hb] at h; exact hK _ _ h
  | seq x y ihx ihy =>
    intro st K K' hK h
    refine ihx _ _ _ (fun ex s h => ?_) h
    cases ex with
    | normal => exact ihy _ _ _ hK h
    | exit i => exact hK _ _ h
    | ret => exact hK _ _ h
  | cond c x y ihx ihy =>
    intro st K K' hK h
    simp only [evCode] at h ⊢
    split
    · rename_i k b hc'
      rw [hc'] at h
      simp only at h
      cases k with
      | true =>
        cases b with
        | true => exact ihx _ _ _ hK h
        | false => exact ihy _ _ _ hK h
      | false =>
        simp only [cond_false] at h ⊢
        have part : T (meet A facts st.nx b (fun d => bif d then evCode A P facts call hook jn n0 am x (decSt st c true) K else evCode A P facts call hook jn n0 am y (decSt st c false) K)) →
            meet algP facts st.nx b (fun d => bif d then evCode algP P facts call' hook jn n0 am x (decSt st c true) K' else evCode algP P facts call' hook jn n0 am y (decSt st c false) K') := by
          intro h
          refine gsim_meet hA (fun d h => ?_) h
          cases d with
          | true => exact ihx _ _ _ hK h
          | false => exact ihy _ _ _ hK h
        cases hfx : facts st.nx with
        | some p => rw [hfx] at h; exact part h
        | none =>
          rw [hfx] at h
          simp only at h ⊢
          cases hjn : jn.c c b x y st with
          | none => rw [hjn] at h; exact part h
          | some j =>
            rw [hjn] at h
            simp only [fL_eq fRV fRV_eq, fL_eq fE fE_eq, fN_eq, fL_eq fN fN_eq] at h ⊢
            exact gsim_eqL hA (gsim_ob hA (hK _ _)) h
    · rename_i hne
      split at h
      · rename_i k b hc'; exact absurd hc' (hne k b)
      · exact absurd h hA.fail
  | block id c ih =>
    intro st K K' hK h
    simp only [evCode] at h ⊢
    split
    · rename_i lc hlc
      rw [hlc] at h
      simp only at h
      cases hb : (Nat.beq lc.n0 n0 && Nat.ble st.nx lc.S.nx && st.W.all (fun i => Nat.ble n0 i || lc.S.W.any (Nat.beq i))) with
      | false => rw [hb] at h; exact absurd h hA.fail
      | true =>
        rw [hb] at h
        simp only [cond_true] at h ⊢
        refine ⟨(hA.eqI h).1, gsim_land hA (fun h => ?_) (hA.eqI h).2⟩
        split
        · rename_i b hpre
          rw [hpre] at h
          exact gsim_settle hA (gsim_LR hA _ _ _ _ hK) h
        · rename_i hpre
          rw [hpre] at h
          exact gsim_LR hA _ _ _ _ hK h
    · rename_i hlc
      rw [hlc] at h
      simp only at h
      refine ih _ _ _ (fun ex s h => ?_) h
      cases ex with
      | normal => exact hK _ _ h
      | exit i =>
        simp only at h ⊢
        cases hi : Nat.beq i id with
        | true => rw [hi] at h; exact hK _ _ h
        | false => rw [hi] at h; exact hK _ _ h
      | ret => exact hK _ _ h
  | loop c ih =>
    intro st K hK h
    have key : ∀ n st (K : Ex → St → R) (K' : Ex → St → Prop), (∀ e s, T (K e s) → K' e s) → T (evLoop A (evCode A P facts call hook jn n0 am c) n st K) → evLoop algP (evCode algP P facts call' hook jn n0 am c) n st K' := by
      intro n
      induction n with
      | zero => intro st K K' _ h; exact absurd h hA.fail
      | succ n ihn =>
        intro st K K' hK h
        refine ih _ _ _ (fun ex s h => ?_) h
        cases ex with
        | normal => exact ihn _ _ _ hK h
        | exit i => exact hK _ _ h
        | ret => exact hK _ _ h
    exact key 300 st K hK h
  | scope c ih => intro st K K' hK h; exact ih _ _ _ hK h
  | rangeFunc f p a b _ _ => intro st K K' _ h; exact absurd h hA.fail
  | goto l => intro st K K' _ h; exact absurd h hA.fail
  | refuse s => intro st K K' _ h; exact absurd h hA.fail
theorem gsim_res (hA : Sound A T) {fn : Func} {s : St} {nx : Nat} {K : Out → R} {K' : Out → Prop} (hK : ∀ out, T (K out) → K' out) (h : T (evRes A P fn s nx K)) : evRes algP P fn s nx K' := by
  unfold evRes at h ⊢
  split
  · rename_i l hl; rw [hl] at h; exact gsim_ob hA (hK _) h
  · rename_i hl; rw [hl] at h; exact absurd h hA.fail
theorem gsim_body (hA : Sound A T) {C : Cfg P} {call : CallF R} {call' : CallF Prop} (hc : GSim T call call') {callJ : CallF JR} {f : FuncId} {args : List RV} {hp : Hp} {nx : Nat} {K : Out → R} {K' : Out → Prop} (hK : ∀ out, T (K out) → K' out) (h : T (evBody A C call callJ f args hp nx K)) : evBody algP C call' callJ f args hp nx K' := by
  unfold evBody at h ⊢
  split
  · rename_i fn hfn
    rw [hfn] at h
    simp only at h
    split
    · rename_i c hb
      rw [hb] at h
      refine gsim_code hA hc _ _ _ _ (fun ex s h => ?_) h
      cases ex with
      | normal => exact gsim_res hA hK h
      | exit i => exact absurd h hA.fail
      | ret => exact gsim_res hA hK h
    · rename_i hb; rw [hb] at h; exact absurd h hA.fail
  · rename_i hfn; rw [hfn] at h; exact absurd h hA.fail
theorem gsim_call (hA : Sound A T) {C : Cfg P} : ∀ n, GSim T (evCall A C n) (evCall algP C n) := by
  intro n
  induction n with
  | zero => intro f args hp nx K K' _ h; exact absurd h hA.fail
  | succ n ih =>
    intro f args hp nx K K' hK h
    simp only [evCall, fOut_eq] at h ⊢
    split
    · rename_i c hc
      rw [hc] at h
      simp only at h
      split
      · rename_i out hout; rw [hout] at h; exact hK _ h
      · rename_i b out hout; rw [hout] at h; exact gsim_settle hA (hK _) h
      · rename_i hout; rw [hout] at h; exact gsim_body hA ih hK h
    · rename_i hc
      rw [hc] at h
      exact gsim_body hA ih hK h
end
/-! ### Two ways that meet again -/
def JR.is (p : Ex × St) (r : JR) : Prop := r.l = r.r ∧ (∀ b, r.obs = some b → b = true) ∧ r.o = some p
theorem sound_J (p : Ex × St) : Sound algJ (JR.is p) where
  fail := fun h => by cases h.2.2
  ob := fun {n b r} h => by
    obtain ⟨l, k, q, o⟩ := r
    cases q with
    | none =>
      obtain ⟨h1, h2, h3⟩ := h
      exact ⟨h2 _ rfl, h1, fun b' hb' => (by cases hb'), h3⟩
    | some b' =>
      obtain ⟨h1, h2, h3⟩ := h
      have h2 := h2 _ rfl
      simp only [Bool.and_eq_true] at h2
      exact ⟨h2.1, h1, fun b'' hb' => (by cases hb'; exact h2.2), h3⟩
  eqI := fun {x y r} h => by
    obtain ⟨l, k, q, o⟩ := r
    obtain ⟨h1, h2, h3⟩ := h
    simp only [algJ, List.cons.injEq] at h1
    exact ⟨h1.1, h1.2, h2, h3⟩
  br := fun h => by cases h.2.2
theorem HO.unk_ids (o : HO) : o.unk.ids = o.ids := by
  cases o with
  | cells cs t => simp only [HO.unk, HO.ids, List.flatMap_map]; congr 1; funext c; exact CV.unk_ids c
  | _ => rfl
/-- s says no more than s1. -/
structure Weak (s s1 : St) : Prop where
  len : s.fr.length = s1.fr.length
  fr : ∀ (i : Nat) r, s.fr[i]? = some r → r.isDead = true ∨ ∃ r1, s1.fr[i]? = some r1 ∧ r.unk = r1.unk
  hp : ∀ id o, hlook s.hp id = some o → ∃ o1, hlook s1.hp id = some o1 ∧ o.unk = o1.unk
  nx : s1.nx ≤ s.nx
  W : ∀ i ∈ s1.W, i ∈ s.W
theorem dead_ids {r : RV} (h : r.isDead = true) : r.ids = [] := by cases r <;> first | rfl | cases h
theorem Weak.names {s s1 : St} (h : Weak s s1) (hn : Names s1.fr s1.hp s1.nx) : Names s.fr s.hp s.nx := by
  refine ⟨fun r hr i hi => ?_, fun id o ho => ?_⟩
  · obtain ⟨k, hk⟩ := List.mem_iff_getElem?.1 hr
    rcases h.fr k r hk with hd | ⟨r1, h1, h2⟩
    · rw [dead_ids hd] at hi; cases hi
    · have : r.ids = r1.ids := by rw [← RV.unk_ids r, h2, RV.unk_ids]
      rw [this] at hi
      exact Nat.lt_of_lt_of_le (hn.fr r1 (List.mem_of_getElem? h1) i hi) h.nx
  · obtain ⟨o1, h1, h2⟩ := h.hp id o ho
    have : o.ids = o1.ids := by rw [← HO.unk_ids o, h2, HO.unk_ids]
    exact ⟨Nat.lt_of_lt_of_le (hn.hp id o1 h1).1 h.nx, fun i hi => by rw [this] at hi; exact Nat.lt_of_lt_of_le ((hn.hp id o1 h1).2 i hi) h.nx⟩
theorem unk_of {e : Env} {w : World} {id : Nat} {o o' : HO} (h : o.unk = o'.unk) : (o'.holds e w id ↔ o.holds e w id) ∧ (∀ b, o'.owns e id b ↔ o.owns e id b) ∧ ∀ b, o'.foot e id b ↔ o.foot e id b :=
  ⟨by rw [← HO.unk_holds (o := o), h, HO.unk_holds], fun b => by rw [← HO.unk_owns (o := o), h, HO.unk_owns], fun b => by rw [← HO.unk_foot (o := o), h, HO.unk_foot]⟩
theorem Weak.stands {n0 base : Nat} {H0 : Nat → Option HO} {s s1 : St} {e : Env} {a : Act} {w : World} (h : Weak s s1) (hs : Stands n0 base H0 s1 e a w) : Stands n0 base H0 s e a w := by
  refine ⟨by rw [h.len]; exact hs.size, fun i r hr => ?_, hs.defers, ⟨fun id o ho => ?_, fun id o ho id' o' ho' hne b hb hf => ?_⟩, fun id o b ho hid hb => ?_, fun id o b ho hid hb => ?_, fun id o ho hid => ?_⟩
  · rcases h.fr i r hr with hd | ⟨r1, h1, h2⟩
    · exact .inl hd
    · rcases hs.fr i r1 h1 with hd | hv
      · exact .inl (by rw [← RV.unk_dead (r := r), h2, RV.unk_dead]; exact hd)
      · exact .inr (by rw [hv, ← RV.unk_den e r, h2, RV.unk_den])
  · obtain ⟨o1, h1, h2⟩ := h.hp id o ho
    exact (unk_of h2).1.1 (hs.sat.holds id o1 h1)
  · obtain ⟨o1, h1, h2⟩ := h.hp id o ho
    obtain ⟨o2, h3, h4⟩ := h.hp id' o' ho'
    exact hs.sat.apart id o1 h1 id' o2 h3 hne b (((unk_of (w := w) h2).2.1 b).2 hb) (((unk_of (w := w) h4).2.2 b).2 hf)
  · obtain ⟨o1, h1, h2⟩ := h.hp id o ho
    exact (hs.own id o1 b h1 hid (((unk_of (w := w) h2).2.1 b).2 hb)).imp_right fun hw => hw.same (fun _ _ => .refl _ _) fun i hi _ => h.W i hi
  · obtain ⟨o1, h1, h2⟩ := h.hp id o ho
    exact (hs.foot id o1 b h1 hid (((unk_of (w := w) h2).2.2 b).2 hb)).imp_right (Or.imp_left fun hw => hw.same (fun _ _ => .refl _ _) fun i hi _ => h.W i hi)
  · obtain ⟨o1, h1, h2⟩ := h.hp id o ho
    obtain ⟨o0, h3, h4⟩ := hs.old id o1 h1 hid
    refine ⟨o0, h3, fun e' id' b hb => ?_⟩
    have g := h4 e' id' b (((unk_of (w := w) h2).2.2 b).2 hb)
    exact ⟨g.1, ((unk_of (w := w) h2).2.1 b).symm.trans g.2⟩
theorem CodeTo.weaken {P : Program} {n0 : Nat} {c : Code} {st s s1 : St} {ex : Ex} (hw : Weak s s1) (h : CodeTo P n0 c st (At1 ex s1)) : CodeTo P n0 c st (At1 ex s) := by
  intro hn hn0 base H0 e a w h2 hs Q hQ
  refine h hn hn0 base H0 e a w h2 hs Q fun ex' s' e' a' w' hR hn' hnx' hW' hm hs' => ?_
  obtain ⟨rfl, rfl⟩ := hR
  refine hQ ex' s e' a' w' ⟨rfl, rfl⟩ (hw.names hn') (Nat.le_trans hnx' hw.nx) (fun i hi hlt => hw.W i (hW' i hi hlt)) ⟨fun id hid => hm.agree id (hid.imp_right fun h => Nat.le_trans hw.nx h), hm.os, hm.tape, hm.output, hm.size, fun k hk hne => hm.fr k hk fun hww => hne (hww.same (fun _ _ => .refl _ _) fun i hi _ => hw.W i hi)⟩ (hw.stands hs')
theorem joinCV_ok {b : Bool} {c1 c2 c : CV} (h : joinCV b c1 c2 = some c) : c.unk = (bif b then c1 else c2).unk := by
  unfold joinCV at h
  split at h
  · split at h
    · rename_i k kd n k' kd' n' hkd
      subst hkd
      cases h
      cases k <;> cases k' <;> first | (cases b <;> rfl) | skip
      by_cases hnn : n = n'
      · subst hnn; cases b <;> simp [CV.unk]
      · cases b <;> simp [CV.unk, hnn]
    · cases h
  · cases h
    rename_i k x k' x'
    cases k <;> cases k' <;> cases x <;> cases x' <;> cases b <;> rfl
  · cases h
    cases b <;> rfl
  · cases h; cases b <;> rfl
  · cases h; cases b <;> rfl
  · rename_i i o i' o'
    cases hb : (Nat.beq i i' && Nat.beq o o') with
    | false => rw [hb] at h; cases h
    | true =>
      rw [hb] at h
      simp only [Bool.and_eq_true] at hb
      cases h
      rw [Nat.eq_of_beq_eq_true hb.1, Nat.eq_of_beq_eq_true hb.2]
      cases b <;> rfl
  · rename_i i o i' o'
    cases hb : (Nat.beq i i' && Nat.beq o o') with
    | false => rw [hb] at h; cases h
    | true =>
      rw [hb] at h
      simp only [Bool.and_eq_true] at hb
      cases h
      rw [Nat.eq_of_beq_eq_true hb.1, Nat.eq_of_beq_eq_true hb.2]
      cases b <;> rfl
  · rename_i i o l c' i' o' l' c''
    cases hb : (Nat.beq i i' && Nat.beq o o' && Nat.beq l l' && Nat.beq c' c'') with
    | false => rw [hb] at h; cases h
    | true =>
      rw [hb] at h
      simp only [Bool.and_eq_true] at hb
      cases h
      rw [Nat.eq_of_beq_eq_true hb.1.1.1, Nat.eq_of_beq_eq_true hb.1.1.2, Nat.eq_of_beq_eq_true hb.1.2, Nat.eq_of_beq_eq_true hb.2]
      cases b <;> rfl
  · rename_i i i'
    cases hb : Nat.beq i i' with
    | false => rw [hb] at h; cases h
    | true =>
      rw [hb] at h
      cases h
      rw [Nat.eq_of_beq_eq_true hb]
      cases b <;> rfl
  · split at h
    · rename_i hh
      cases h
      rw [hh.1, hh.2]
      cases b <;> rfl
    · cases h
  · cases h
theorem joinL_ok {b : Bool} : ∀ {l1 l2 l : List CV}, joinL b l1 l2 = some l → l.map CV.unk = (bif b then l1 else l2).map CV.unk := by
  intro l1
  induction l1 with
  | nil => intro l2 l h; cases l2 with
    | nil => cases h; cases b <;> rfl
    | cons => cases h
  | cons c l1 ih => intro l2 l h; cases l2 with
    | nil => cases h
    | cons c' l2 =>
      simp only [joinL] at h
      split at h
      · rename_i x y hx hy
        cases h
        have h1 := joinCV_ok hx
        have h2 := ih hy
        cases b
        · simp only [List.map_cons, cond_false] at h1 h2 ⊢; rw [h1, h2]
        · simp only [List.map_cons, cond_true] at h1 h2 ⊢; rw [h1, h2]
      · cases h
theorem joinRV_ok {b : Bool} {r1 r2 : RV} : (joinRV b r1 r2).isDead = true ∨ (joinRV b r1 r2).unk = (bif b then r1 else r2).unk := by
  unfold joinRV
  split
  · split
    · rename_i c hc
      right
      have := joinCV_ok hc
      cases b
      · simpa [RV.unk, SV.unk] using this
      · simpa [RV.unk, SV.unk] using this
    · left; rfl
  · split
    · rename_i l hl
      right
      have := joinL_ok hl
      cases b
      · simpa [RV.unk, SV.unk] using this
      · simpa [RV.unk, SV.unk] using this
    · left; rfl
  · left; rfl
theorem joinFr_ok {b : Bool} {m : Nat} : ∀ {l l1 l2 : List RV} {i : Nat}, l1.length = l.length → l2.length = l.length → unch m i l1 = unch m i l → unch m i l2 = unch m i l →
    (joinFr b m i l l1 l2).length = l.length ∧ ∀ (j : Nat) r, (joinFr b m i l l1 l2)[j]? = some r → r.isDead = true ∨ ∃ r', (bif b then l1 else l2)[j]? = some r' ∧ r.unk = r'.unk := by
  intro l
  induction l with
  | nil => intro l1 l2 i h1 h2 _ _; exact ⟨rfl, fun j r h => by simp [joinFr] at h⟩
  | cons x l ih =>
    intro l1 l2 i h1 h2 h3 h4
    cases l1 with
    | nil => cases h1
    | cons x1 l1 => cases l2 with
      | nil => cases h2
      | cons x2 l2 =>
        simp only [unch, List.cons.injEq] at h3 h4
        obtain ⟨k1, k2⟩ := ih (i := i + 1) (by simpa using h1) (by simpa using h2) h3.2 h4.2
        refine ⟨by simp [joinFr, k1], fun j r hr => ?_⟩
        cases j with
        | zero =>
          simp only [joinFr, List.getElem?_cons_zero, Option.some.injEq] at hr
          subst hr
          cases hb : mBit m i with
          | true =>
            simp only [cond_true]
            rcases joinRV_ok (b := b) (r1 := x1) (r2 := x2) with h | h
            · exact .inl h
            · right
              cases b
              · exact ⟨x2, rfl, h⟩
              · exact ⟨x1, rfl, h⟩
          | false =>
            rw [hb] at h3 h4
            simp only [cond_false] at h3 h4 ⊢
            right
            cases b
            · exact ⟨x2, rfl, by rw [h4.1]⟩
            · exact ⟨x1, rfl, by rw [h3.1]⟩
        | succ j =>
          simp only [joinFr, List.getElem?_cons_succ] at hr
          have := k2 j r hr
          cases b
          · simpa using this
          · simpa using this
theorem joinCells_ok {b : Bool} {ch : Nat → Bool} : ∀ {l l1 l2 r : List CV} {j : Nat}, joinCells b ch j l l1 l2 = some r → maskC ch j l1 = maskC ch j l → maskC ch j l2 = maskC ch j l → r.map CV.unk = (bif b then l1 else l2).map CV.unk := by
  intro l
  induction l with
  | nil => intro l1 l2 r j h _ _; cases l1 with
    | nil => cases l2 with
      | nil => cases h; cases b <;> rfl
      | cons => cases h
    | cons => cases l2 <;> cases h
  | cons c l ih => intro l1 l2 r j h h1 h2; cases l1 with
    | nil => cases l2 <;> cases h
    | cons c1 l1 => cases l2 with
      | nil => cases h
      | cons c2 l2 =>
        simp only [joinCells] at h
        split at h
        · rename_i x y hx hy
          cases h
          simp only [maskC, List.cons.injEq] at h1 h2
          have h3 := ih hy h1.2 h2.2
          have h4 : x.unk = (bif b then c1 else c2).unk := by
            cases hc : ch j with
            | true => rw [hc] at hx; exact joinCV_ok hx
            | false =>
              rw [hc] at hx h1 h2
              simp only [cond_false, Option.some.injEq] at hx h1 h2
              subst hx
              cases b
              · simp only [cond_false]; rw [h2.1]
              · simp only [cond_true]; rw [h1.1]
          cases b
          · simp only [List.map_cons, cond_false] at h3 h4 ⊢; rw [h3, h4]
          · simp only [List.map_cons, cond_true] at h3 h4 ⊢; rw [h3, h4]
        · cases h
theorem joinHO_ok {b : Bool} {ch : Nat → Bool} {o0 o1 o2 o : HO} {l r : List Item} (h : joinHO b ch o0 o1 o2 = some (o, l, r)) : l.length = r.length ∧ (l = r → o.unk = (bif b then o1 else o2).unk) := by
  unfold joinHO at h
  split at h
  · rename_i cs t cs1 t1 cs2 t2
    cases hb : (Nat.beq t t1 && Nat.beq t t2) with
    | false => rw [hb] at h; cases h
    | true =>
      rw [hb] at h
      simp only [cond_true] at h
      simp only [Bool.and_eq_true] at hb
      split at h
      · rename_i y hy
        cases h
        refine ⟨rfl, fun hlr => ?_⟩
        simp only [List.cons.injEq, Item.st.injEq, HO.cells.injEq, and_true, true_and] at hlr
        have := joinCells_ok hy hlr.1 hlr.2
        obtain rfl := Nat.eq_of_beq_eq_true hb.1
        obtain rfl := Nat.eq_of_beq_eq_true hb.2
        cases b
        · simpa [HO.unk] using this
        · simpa [HO.unk] using this
      · cases h
  · rename_i sh t l0 sh1 t1 l1 sh2 t2 l2
    cases hb : (shEqL sh1 sh && shEqL sh2 sh && Nat.beq t1 t && Nat.beq t2 t) with
    | false => rw [hb] at h; cases h
    | true =>
      rw [hb] at h
      simp only [cond_true, Option.some.injEq, Prod.mk.injEq] at h
      simp only [Bool.and_eq_true] at hb
      obtain ⟨rfl, rfl, rfl⟩ := h
      refine ⟨rfl, fun _ => ?_⟩
      rw [shEqL_spec hb.1.1.1, shEqL_spec hb.1.1.2, Nat.eq_of_beq_eq_true hb.1.2, Nat.eq_of_beq_eq_true hb.2]
      cases b <;> rfl
  · cases h
    exact ⟨rfl, fun _ => by cases b <;> rfl⟩
  · cases h
theorem joinHp_ok {b : Bool} {hp hp1 hp2 pre : Hp} : ∀ {ids : List Nat} {J : Hp} {l r : List Item}, joinHp b hp hp1 hp2 pre ids = some (J, l, r) → l.length = r.length ∧ (l = r →
    (∀ id o, hlook J id = some o → ∃ o', hlook (bif b then hp1 else hp2) id = some o' ∧ o.unk = o'.unk) ∧ ∀ id ∈ ids, ∃ o, hlook J id = some o) := by
  intro ids
  induction ids with
  | nil => intro J l r h; cases h; exact ⟨rfl, fun _ => ⟨fun id o h => (by simp [hlook] at h), fun id h => (by cases h)⟩⟩
  | cons i ids ih =>
    intro J l r h
    simp only [joinHp] at h
    split at h
    · rename_i o0 o1 o2 g0 g1 g2
      split at h
      · rename_i o l1 r1 J1 k1 k2 hj hr
        cases h
        obtain ⟨a1, a2⟩ := joinHO_ok hj
        obtain ⟨b1, b2⟩ := ih hr
        refine ⟨by simp [a1, b1], fun hlr => ?_⟩
        obtain ⟨e1, e2⟩ := List.append_inj hlr a1
        have hu := a2 e1
        obtain ⟨c1, c2⟩ := b2 e2
        refine ⟨fun id o' ho' => ?_, fun id hid => ?_⟩
        · simp only [hlook] at ho'
          cases hb : Nat.beq i id with
          | true =>
            rw [hb] at ho'
            cases ho'
            obtain rfl := Nat.eq_of_beq_eq_true hb
            cases b
            · exact ⟨o2, g2, hu⟩
            · exact ⟨o1, g1, hu⟩
          | false => rw [hb] at ho'; exact c1 id o' ho'
        · simp only [hlook]
          cases hb : Nat.beq i id with
          | true => exact ⟨o, rfl⟩
          | false =>
            rcases List.mem_cons.1 hid with rfl | hid
            · rw [Nat.beq_refl] at hb; cases hb
            · exact c2 id hid
      · cases h
    · cases h
theorem addIds_ok {n : Nat} : ∀ {l : Hp} {acc : List Nat}, (∀ i ∈ acc, i ∈ addIds n l acc) ∧ ∀ p ∈ l, p.1 < n → p.1 ∈ addIds n l acc := by
  intro l
  induction l with
  | nil => intro acc; exact ⟨fun i hi => hi, fun p hp => (by cases hp)⟩
  | cons q l ih =>
    intro acc
    simp only [addIds]
    cases hb : (!Nat.blt q.1 n || acc.any (Nat.beq q.1)) with
    | true =>
      simp only [cond_true]
      refine ⟨ih.1, fun p hp hlt => ?_⟩
      rcases List.mem_cons.1 hp with rfl | hp
      · simp only [Bool.or_eq_true, Bool.not_eq_true'] at hb
        rcases hb with hb | hb
        · have : Nat.blt p.1 n = true := Nat.ble_eq_true_of_le hlt
          rw [this] at hb; cases hb
        · obtain ⟨q, hq, hbq⟩ := List.any_eq_true.1 hb
          rw [Nat.eq_of_beq_eq_true hbq]
          exact ih.1 q hq
      · exact ih.2 p hp hlt
    | false =>
      simp only [cond_false]
      refine ⟨fun i hi => ih.1 i (List.mem_cons_of_mem _ hi), fun p hp hlt => ?_⟩
      rcases List.mem_cons.1 hp with rfl | hp
      · exact ih.1 _ List.mem_cons_self
      · exact ih.2 p hp hlt
theorem joinM_ok {m : Nat} {b : Bool} {st s1 s2 : St} {R1 R2 : JR} {j : JRes} (hn : Names st.fr st.hp st.nx) (h : joinM m b st R1 R2 s1 s2 = some j) (hlr : j.l = j.r) (hob : ∀ o, j.obs = some o → o = true) :
    (b = true → R1.l = R1.r ∧ (∀ o, R1.obs = some o → o = true) ∧ Weak j.s s1) ∧ (b = false → R2.l = R2.r ∧ (∀ o, R2.obs = some o → o = true) ∧ Weak j.s s2) := by
  unfold joinM at h
  simp only [fN_eq, fL_eq fE fE_eq, fL_eq fN fN_eq] at h
  cases hb : (Nat.beq s1.fr.length st.fr.length && Nat.beq s2.fr.length st.fr.length && Nat.beq R1.l.length R1.r.length && Nat.beq R2.l.length R2.r.length) with
  | false => rw [hb] at h; cases h
  | true =>
    rw [hb] at h
    simp only [cond_true] at h
    simp only [Bool.and_eq_true] at hb
    obtain ⟨⟨⟨b1, b2⟩, b3⟩, b4⟩ := hb
    have b1 := Nat.eq_of_beq_eq_true b1
    have b2 := Nat.eq_of_beq_eq_true b2
    have b3 := Nat.eq_of_beq_eq_true b3
    have b4 := Nat.eq_of_beq_eq_true b4
    split at h
    · rename_i J jl jr hJ
      cases h
      simp only [List.cons.injEq, Item.st.injEq, Item.hp.injEq, and_true] at hlr
      obtain ⟨e1, e2, e3, e4, e5⟩ := hlr
      obtain ⟨e6, e7⟩ := List.append_inj e5 b3
      obtain ⟨e8, e9⟩ := List.append_inj e7 b4
      obtain ⟨_, hJ⟩ := joinHp_ok hJ
      obtain ⟨hJ1, hJ2⟩ := hJ e9
      have hfr := joinFr_ok (b := b) b1 b2 e1 e2
      have hlook1 : ∀ (s : St), s.hp.drop (s.hp.length - st.hp.length) = st.hp → (∀ p ∈ s.hp.take (s.hp.length - st.hp.length), p ∈ s1.hp.take (s1.hp.length - st.hp.length) ++ s2.hp.take (s2.hp.length - st.hp.length)) →
          ∀ id o, hlook st.hp id = some o → (∀ o', hlook J id ≠ some o') → hlook s.hp id = some o := by
        intro s hd hsub id o ho hne
        rw [← List.take_append_drop (s.hp.length - st.hp.length) s.hp, hd, hlook_append]
        cases hl : hlook (s.hp.take (s.hp.length - st.hp.length)) id with
        | none => exact ho
        | some o' =>
          have hm := hsub _ (hlook_mem hl)
          obtain ⟨o'', ho''⟩ := hJ2 id (addIds_ok.2 _ hm (hn.hp id o ho).1)
          exact absurd ho'' (hne o'')
      have main : ∀ s, (bif b then s1 else s2) = s → s.hp.drop (s.hp.length - st.hp.length) = st.hp → (∀ p ∈ s.hp.take (s.hp.length - st.hp.length), p ∈ s1.hp.take (s1.hp.length - st.hp.length) ++ s2.hp.take (s2.hp.length - st.hp.length)) → s.fr.length = st.fr.length →
          s.nx ≤ Nat.max s1.nx s2.nx → (∀ i ∈ s.W, i ∈ s1.W ++ s2.W) → Weak ⟨joinFr b m 0 st.fr s1.fr s2.fr, J ++ st.hp, Nat.max s1.nx s2.nx, s1.W ++ s2.W⟩ s := by
        intro s hs hd hsub hlen hnx hW
        refine ⟨by rw [hlen]; exact hfr.1, fun i r hr => ?_, fun id o ho => ?_, hnx, hW⟩
        · have := hfr.2 i r hr
          rw [← hs]
          cases b
          · exact this
          · exact this
        · simp only [hlook_append] at ho
          cases hl : hlook J id with
          | some o' =>
            rw [hl] at ho
            cases ho
            have := hJ1 id _ hl
            rw [← hs]
            cases b
            · exact this
            · exact this
          | none =>
            rw [hl] at ho
            exact ⟨o, hlook1 s hd hsub id o ho (fun o' h => by rw [hl] at h; cases h), rfl⟩
      refine ⟨fun hbt => ?_, fun hbf => ?_⟩
      · subst hbt
        exact ⟨e6, fun o ho => by
          cases h2' : R2.obs with
          | none => exact hob o (by rw [ho, h2']; rfl)
          | some o2 => exact hob o (by rw [ho, h2']; rfl), main s1 rfl e3 (fun p hp => List.mem_append_left _ hp) b1 (Nat.le_max_left _ _) (fun i hi => List.mem_append_left _ hi)⟩
      · subst hbf
        exact ⟨e8, fun o ho => by
          cases h2' : R1.obs with
          | none => exact hob o (by rw [ho, h2']; rfl)
          | some o2 => exact hob o (by rw [ho, h2']; rfl), main s2 rfl e4 (fun p hp => List.mem_append_right _ hp) b2 (Nat.le_max_right _ _) (fun i hi => List.mem_append_right _ hi)⟩
    · cases h
theorem joinAll_ok {P : Program} {n0 : Nat} {c : Operand} {b k : Bool} {x y : Code} {st s1 s2 : St} {R1 R2 : JR} {j : JRes} (hc : opnd st.fr c = .sv (.one (.val k (.bool b)))) (hn : Names st.fr st.hp st.nx) (h : joinAll c b x y st R1 R2 s1 s2 = some j) (hlr : j.l = j.r) (hob : ∀ o, j.obs = some o → o = true)
    (h1 : b = true → R1.l = R1.r → (∀ o, R1.obs = some o → o = true) → CodeTo P n0 x (decSt st c true) (At1 .normal s1) ∧ (Names s1.fr s1.hp s1.nx ∧ (decSt st c true).nx ≤ s1.nx))
    (h2 : b = false → R2.l = R2.r → (∀ o, R2.obs = some o → o = true) → CodeTo P n0 y (decSt st c false) (At1 .normal s2) ∧ (Names s2.fr s2.hp s2.nx ∧ (decSt st c false).nx ≤ s2.nx)) :
    CodeTo P n0 (.cond c x y) st (At1 .normal j.s) ∧ (Names j.s.fr j.s.hp j.s.nx ∧ st.nx ≤ j.s.nx) := by
  obtain ⟨g1, g2⟩ := joinM_ok hn h hlr hob
  have hdec : st.nx ≤ (decSt st c b).nx := by rw [decSt_nx]; omega
  cases b with
  | true =>
    obtain ⟨q1, q2, hw⟩ := g1 rfl
    obtain ⟨k1, k2, k3⟩ := h1 rfl q1 q2
    exact ⟨.cond hc (.dec hc (k1.weaken hw)), hw.names k2, Nat.le_trans hdec (Nat.le_trans k3 hw.nx)⟩
  | false =>
    obtain ⟨q1, q2, hw⟩ := g2 rfl
    obtain ⟨k1, k2, k3⟩ := h2 rfl q1 q2
    exact ⟨.cond hc (.dec hc (k1.weaken hw)), hw.names k2, Nat.le_trans hdec (Nat.le_trans k3 hw.nx)⟩
theorem Weak.refl (s : St) : Weak s s := ⟨rfl, fun i r h => .inr ⟨r, h, rfl⟩, fun id o h => ⟨o, h, rfl⟩, Nat.le_refl _, fun i h => h⟩
theorem Weak.trans {a b c : St} (h : Weak a b) (k : Weak b c) : Weak a c := by
  refine ⟨h.len.trans k.len, fun i r hr => ?_, fun id o ho => ?_, Nat.le_trans k.nx h.nx, fun i hi => h.W i (k.W i hi)⟩
  · rcases h.fr i r hr with h1 | ⟨r1, h1, h2⟩
    · exact .inl h1
    · rcases k.fr i r1 h1 with h3 | ⟨r2, h3, h4⟩
      · exact .inl (by rw [← RV.unk_dead (r := r), h2, RV.unk_dead]; exact h3)
      · exact .inr ⟨r2, h3, h2.trans h4⟩
  · obtain ⟨o1, h1, h2⟩ := h.hp id o ho
    obtain ⟨o2, h3, h4⟩ := k.hp id o1 h1
    exact ⟨o2, h3, h2.trans h4⟩
/-- A good outcome, of which p says no more. -/
def JW (p : St) (r : JR) : Prop := ∃ s, Weak p s ∧ JR.is (.normal, s) r
theorem sound_M {m : Nat} {st p : St} (hn : Names st.fr st.hp st.nx) : Sound (algM m st) (JW p) where
  fail := fun ⟨s, _, h⟩ => by cases h.2.2
  ob := fun {n b r} ⟨s, hw, h⟩ => by
    obtain ⟨h1, h2⟩ := (sound_J (.normal, s)).ob (n := n) (b := b) (r := r) h
    exact ⟨h1, s, hw, h2⟩
  eqI := fun {x y r} ⟨s, hw, h⟩ => by
    obtain ⟨h1, h2⟩ := (sound_J (.normal, s)).eqI (x := x) (y := y) (r := r) h
    exact ⟨h1, s, hw, h2⟩
  br := fun {n b r r'} h => by
    obtain ⟨s, hw, h1, h2, h3⟩ := h
    simp only [algM] at h1 h2 h3
    split at h1
    · rename_i l1 r1 k1 s1 l2 r2 k2 s2
      simp only [fSt_eq] at h1 h2 h3
      split at h1
      · rename_i j hj
        rw [hj] at h2 h3
        simp only [Option.some.injEq, Prod.mk.injEq, true_and] at h2 h3
        subst h3
        obtain ⟨g1, g2⟩ := joinM_ok hn hj h1 (fun o ho => h2 o ho)
        refine ⟨fun hb => ?_, fun hb => ?_⟩
        · obtain ⟨q1, q2, q3⟩ := g1 hb
          exact ⟨s1, hw.trans q3, q1, q2, rfl⟩
        · obtain ⟨q1, q2, q3⟩ := g2 hb
          exact ⟨s2, hw.trans q3, q1, q2, rfl⟩
      · rename_i hj
        rw [hj] at h3
        cases h3
    · rename_i hne
      split at h3
      · rename_i l1 r1 k1 s1 l2 r2 k2 s2
        exact absurd rfl (hne l1 r1 k1 s1 l2 r2 k2 s2 rfl)
      · cases h3
theorem regJ_ok {P : Program} {facts : Nat → Option (Bool × Bool)} (hf : FactsOk facts) {call : CallF JR} {call' : CallF Prop} (hcall : CallsOk P call') (hc : ∀ p, GSim (JR.is p) call call') {n0 : Nat} {am : Mode} {id : Nat} {ops : Array Oper} {draw : Bool} {st : St} {j : JRes}
    (hn : Names st.fr st.hp st.nx) (h : regJ P facts call am ops draw st = some j) (hlr : j.l = j.r) (hob : ∀ o, j.obs = some o → o = true) : CodeTo P n0 (.region id ops draw) st (At1 .normal j.s) ∧ (Names j.s.fr j.s.hp j.s.nx ∧ st.nx ≤ j.s.nx) := by
  unfold regJ at h
  cases hg : ops.toList.any (fun o => o.guard.isSome) with
  | false => rw [hg] at h; cases h
  | true =>
    rw [hg] at h
    simp only [cond_true, fSt_eq] at h
    split at h
    · rename_i l r k s he
      cases h
      have hc' : GSim (JW s) call call' := fun f args hp nx K K' hK hT => by
        obtain ⟨s', hw, hi⟩ := hT
        exact hc (.normal, s') f args hp nx K K' (fun out ho => hK out ⟨s', hw, ho⟩) hi
      have h1 : JW s (evOps (algM (dmOps ops.toList 0) st) P facts call am ops ops.toList st.fr st.hp st.nx [] (regK P ops draw st.W)) := by
        rw [he]
        exact ⟨s, .refl s, hlr, hob, rfl⟩
      have h2 := gsim_ops (sound_M (p := s) hn) hc' (ops := ops) ops.toList st.fr st.hp st.nx [] (regK P ops draw st.W) (fun fr hp nx trs => JW s (regK P ops draw st.W fr hp nx trs)) (fun fr hp nx trs h => h) h1
      obtain ⟨trs, t1, t2, t3⟩ := evOps_ok hf hcall hn ops.toList [] _ (fun j o hj => by simpa using hj) trivial h2
      unfold regK at t3
      cases hb : (!draw || (P.follows .mixedOrders && edgesBack ops.toList 0 && chkAll trs (masks ops.toList []))) with
      | false =>
        rw [hb] at t3
        obtain ⟨_, _, _, _, h3⟩ := t3
        cases h3
      | true =>
        rw [hb] at t3
        obtain ⟨s', hw, _, _, h3⟩ := t3
        simp only [cond_true, Option.some.injEq, Prod.mk.injEq, true_and] at h3
        subst h3
        have hnm := t2.names hn
        refine ⟨CodeTo.weaken hw (.region t2 (by simpa using t1) (fun hd => ?_) ⟨rfl, rfl⟩), hw.names hnm.1, Nat.le_trans hnm.2 hw.nx⟩
        subst hd
        simp only [Bool.not_true, Bool.false_or, Bool.and_eq_true] at hb
        exact ⟨hb.1.1, hb.1.2, hb.2⟩
    · cases h
theorem jnN_ok {P : Program} {facts : Nat → Option (Bool × Bool)} (hf : FactsOk facts) {call : CallF JR} {call' : CallF Prop} (hcall : CallsOk P call') (hc : ∀ p, GSim (JR.is p) call call') {hook : Nat → St → Option (LoopCon P)} {n0 : Nat} {am : Mode} {rg sc : Bool} : ∀ d, JnOk P n0 (jnN P facts call hook n0 am rg sc d) := by
  have reg : ∀ id ops draw st j, Names st.fr st.hp st.nx → (bif rg then regJ P facts call am ops draw st else none) = some j → j.l = j.r → (∀ o, j.obs = some o → o = true) → CodeTo P n0 (.region id ops draw) st (At1 .normal j.s) ∧ (Names j.s.fr j.s.hp j.s.nx ∧ st.nx ≤ j.s.nx) := by
    intro id ops draw st j hn h hlr hob
    cases rg with
    | false => cases h
    | true => exact regJ_ok hf hcall hc hn h hlr hob
  intro d
  induction d with
  | zero => exact ⟨fun c b k x y st j _ _ h => (by cases h), reg⟩
  | succ d ih =>
    refine ⟨?_, reg⟩
    intro c b k x y st j hop hn h hlr hob
    have way : ∀ (z : Code) (v : Bool) (l r : List Item) (o : Option Bool) (ex : Ex) (s : St), evCode algJ P facts call hook (jnN P facts call hook n0 am rg sc d) n0 am z (decSt st c v) (fun ex s => ⟨[], [], none, some (ex, s)⟩) = ⟨l, r, o, some (ex, s)⟩ →
        l = r → (∀ q, o = some q → q = true) → CodeTo P n0 z (decSt st c v) (At1 ex s) ∧ (Names s.fr s.hp s.nx ∧ (decSt st c v).nx ≤ s.nx) := by
      intro z v l r o ex s he hl ho
      obtain ⟨ex', s', g1, g2, g3⟩ := evCode_ok hf hcall ih z (decSt st c v) (fun ex' s' => (ex', s') = (ex, s)) (decSt_names hn) (gsim_code (sound_J (ex, s)) (hc (ex, s)) z (decSt st c v) (fun ex s => ⟨[], [], none, some (ex, s)⟩) _ (fun ex' s' hg => by
        have h3 : some (ex', s') = some (ex, s) := hg.2.2
        exact Option.some.inj h3) (by rw [he]; exact ⟨hl, ho, rfl⟩))
      cases g3
      exact ⟨g1, g2⟩
    simp only [jnN, fSt_eq] at h
    split at h
    · rename_i l1 r1 k1 s1 l2 r2 k2 s2 hx hy
      cases hcl : (sc && clash b (dv y (dv x 0)) 0 s1.fr s2.fr) with
      | true => rw [hcl] at h; cases h
      | false =>
      rw [hcl] at h
      simp only [cond_false] at h
      exact joinAll_ok hop hn h hlr hob (fun _ e o => way x true l1 r1 k1 .normal s1 hx e o) (fun _ e o => way y false l2 r2 k2 .normal s2 hy e o)
    · cases h
end Go.Proofs.Ytonlllijdbjkaaa

/- A symbolic way through the code of a call: calls as a whole. No condition. -/
set_option linter.unusedVariables false
namespace Go.Proofs.Ytonlllijdbjkaaa
open Go.RowKit

theorem Stands.tmp {n0 base : Nat} {H0 : Nat → Option HO} {st : St} {e : Env} {a : Act} {w : World} (h : Stands n0 base H0 st e a w) (t : Nat) (hd : (st.fr.getD t RV.und).isDead = false) : a.tmps.getD t undef = (st.fr.getD t RV.und).den e :=
  h.eval (.tmp t) hd
def resSem (tmps : Array Value) (r : ResultVar) : Sem Value :=
  match r with
  | .tmp t => pure (tmps.getD t undef)
  | .cell b t => do loadVar t (← asAddr (tmps.getD b undef))
theorem resOne_ok {P : Program} {n0 base : Nat} {H0 : Nat → Option HO} {st : St} {e : Env} {a : Act} {w : World} (h : Stands n0 base H0 st e a w) {r : ResultVar} {s : SV} (hr : resOne P st.fr st.hp r = some s) (hq : resAsk1 P st.fr st.hp r ≠ some false) :
    (resSem a.tmps r).run P w = .ok (s.den e) w := by
  unfold resSem
  cases r with
  | tmp t =>
    simp only [resOne] at hr
    split at hr
    · rename_i s' hs'
      cases hr
      simp only [h.tmp t (by rw [hs']; rfl), hs', Sem.run_pure]; rfl
    · cases hr
  | cell b t =>
    simp only [resOne] at hr
    split at hr
    · rename_i id off hs'
      split at hr
      · rename_i cs ty hl
        have := ldCells_load hr (holds_cells_cell (h.sat.holds _ _ hl))
        rw [Nat.zero_add] at this
        simp only [h.tmp b (by rw [hs']; rfl), hs', RV.den, SV.den, CV.den, asAddr, Sem.run_bind, Sem.run_pure, Result.andThen_ok]
        exact this
      · cases hr
    · rename_i q hs'
      split at hr
      rotate_left
      · cases hr
      rename_i b1 s1 h1
      cases hr
      have hb1 : b1 = true := by
        cases b1 with
        | true => rfl
        | false => exact absurd (by simp only [resAsk1, hs', h1]) hq
      obtain ⟨ad, g1, g2, _⟩ := loadTab_ok h1 hb1 h.sat
      have g1' : (RV.sv (.one (.eptr q 0))).den e = .pointer (some ad) := g1
      simp only [h.tmp b (by rw [hs']; rfl), hs', g1', asAddr, Sem.run_bind, Sem.run_pure, Result.andThen_ok]
      exact g2
    · cases hr
theorem andO_ne {x y : Option Bool} (h : andO x y ≠ some false) : x ≠ some false ∧ y ≠ some false := by
  rcases x with _ | _ | _ <;> rcases y with _ | _ | _ <;> simp_all [andO]
theorem resAll_ok {P : Program} {n0 base : Nat} {H0 : Nat → Option HO} {st : St} {e : Env} {a : Act} {w : World} (h : Stands n0 base H0 st e a w) : ∀ (l : List ResultVar) (svs : List SV), resAll P st.fr st.hp l = some svs → resAsk P st.fr st.hp l ≠ some false →
    (l.mapM (resSem a.tmps)).run P w = .ok (svs.map (SV.den e)) w := by
  intro l
  induction l with
  | nil => intro svs hr _; simp only [resAll, Option.some.injEq] at hr; subst hr; simp
  | cons r l ih =>
    intro svs hr hq
    obtain ⟨q1, q2⟩ := andO_ne (show andO _ _ ≠ some false from hq)
    simp only [resAll] at hr
    split at hr
    · rename_i s l' hs hl
      cases hr
      rw [List.mapM_cons]
      simp only [Sem.run_bind]
      rw [resOne_ok h hs q1]
      simp only [Result.andThen_ok, ih _ hl q2, Sem.run_pure, List.map_cons]
    · cases hr
theorem results_ok {P : Program} {fn : Func} {n0 base : Nat} {H0 : Nat → Option HO} {st : St} {e : Env} {a : Act} {w : World} (h : Stands n0 base H0 st e a w) {l : List SV} (hr : resAll P st.fr st.hp fn.results.toList = some l ∧ resAsk P st.fr st.hp fn.results.toList ≠ some false) :
    (results fn a.tmps).run P w = .ok ((oneOrTup l).den e) w := by
  have key := resAll_ok h _ _ hr.1 hr.2
  have e1 : results fn a.tmps = (do
    let vs ← fn.results.mapM (resSem a.tmps)
    pure (if h : vs.size = 1 then vs[0] else .tuple vs)) := rfl
  rw [e1, Array.mapM_eq_mapM_toList]
  simp only [Sem.run_bind, Sem.run_map, key, Result.andThen_ok, Sem.run_pure]
  congr 1
  match l with
  | [] => rfl
  | [s] => rfl
  | s :: s' :: l => rfl
theorem evRes_ok {P : Program} {fn : Func} {s : St} {nx : Nat} {K : Out → Prop} (h : evRes algP P fn s nx K) : ∃ out, K out ∧ (∀ i ∈ out.W, i ∈ s.W ∧ i < nx) ∧ (∀ i ∈ s.W, i < nx → i ∈ out.W) ∧ out.nx = s.nx ∧ (∀ id o, hlook out.up id = some o → hlook s.hp id = some o ∧ (id < nx → id ∈ out.W)) ∧
    ∃ l, (resAll P s.fr s.hp fn.results.toList = some l ∧ resAsk P s.fr s.hp fn.results.toList ≠ some false) ∧ out.v = oneOrTup l := by
  unfold evRes at h
  split at h
  · rename_i l hl
    obtain ⟨hask, h⟩ := obO_ok h
    refine ⟨_, h, fun i hi => ?_, fun i hi hlt => ?_, rfl, fun id o ho => ⟨(hlook_restrict ho).2, fun hlt => ?_⟩, l, ⟨hl, fun hh => by have := hask _ hh; cases this⟩, rfl⟩
    · have := List.mem_filter.1 hi
      exact ⟨this.1, blt_spec this.2⟩
    · exact List.mem_filter.2 ⟨hi, Nat.ble_eq_true_of_le hlt⟩
    · have h1 := (List.mem_filter.1 (hlook_restrict ho).1).2
      simp only [Bool.or_eq_true] at h1
      rcases h1 with h1 | h1
      · have := Nat.le_of_ble_eq_true h1; omega
      · obtain ⟨q, hq, hbq⟩ := List.any_eq_true.1 h1; rw [Nat.eq_of_beq_eq_true hbq]; exact hq
  · exact False.elim h
theorem names_pad {args : List RV} {hp : Hp} {nx n : Nat} (h : Names args hp nx) : Names (args ++ List.replicate n RV.und) hp nx := by
  refine ⟨fun r hr i hi => ?_, h.hp⟩
  rcases List.mem_append.1 hr with hr | hr
  · exact h.fr r hr i hi
  · rw [(List.mem_replicate.1 hr).2] at hi
    simp [RV.und, RV.ids, SV.ids, CV.ids] at hi
theorem callOk_of_to {P : Program} {f : FuncId} {fn : Func} {c : Code} {args : List RV} {hp : Hp} {nx : Nat} {out : Out} (hf : P.funcs[f]? = some fn) (hb : fn.body = some c) (hnm : Names args hp nx)
    (h : CodeTo P nx c (startSt fn args hp nx) fun ex s => (ex = .normal ∨ ex = .ret) ∧ (∀ i ∈ s.W, i < nx → i ∈ out.W) ∧ out.nx = s.nx ∧ (∀ id o, hlook out.up id = some o → hlook s.hp id = some o ∧ (id < nx → id ∈ out.W)) ∧
      ∃ l, (resAll P s.fr s.hp fn.results.toList = some l ∧ resAsk P s.fr s.hp fn.results.toList ≠ some false) ∧ out.v = oneOrTup l) : CallOk P f args hp nx out := by
  intro e w hsat
  refine calls_of_wp hf hb ?_
  have hmem : ∀ r ∈ args ++ List.replicate (fn.ntmps - args.length) RV.und, ∀ i ∈ r.ids, i < nx := (names_pad hnm).fr
  refine h (names_pad hnm) (Nat.le_refl _) w.heap.size (hlook hp) e _ w (Nat.le_refl _) ⟨?_, fun s r hr => ?_, rfl, hsat, fun id o b ho hi _ => ?_, fun id o b ho hi _ => ?_, fun id o ho _ => ⟨o, ho, .refl o⟩⟩ _ fun ex s e' a' w' hR hn' hnx hW hm hs' => ?_
  · simp [startSt]
  · right
    simp only [startSt] at hr
    rw [List.getElem?_append] at hr
    simp only [Array.getElem?_append, List.size_toArray, List.length_map]
    by_cases hlt : s < args.length
    · rw [if_pos hlt] at hr ⊢
      simp [hr]
    · rw [if_neg hlt] at hr ⊢
      rw [List.getElem?_replicate] at hr
      split at hr
      · rename_i h1
        cases hr
        simp [h1, RV.und, RV.den, SV.den, CV.den]
      · cases hr
  · have := (hnm.hp id o ho).1; omega
  · have := (hnm.hp id o ho).1; omega
  · obtain ⟨hex, h1, h2, h3, l, h4, h5⟩ := hR
    have hlow : ∀ id, id < nx → e'.same e id := fun id hid => (hm.agree id (.inl hid)).symm
    have hwr : ∀ b, WroteW s.W (hlook hp) nx e' b → ∃ id0 ∈ out.W, ∃ o0, hlook hp id0 = some o0 ∧ o0.owns e id0 b := by
      rintro b ⟨id0, g1, g2, o0, g3, g4⟩
      exact ⟨id0, h1 id0 g1 g2, o0, g3, (HO.owns_same (hlow id0 g2)).2 g4⟩
    have hpost : ∃ e'', Ending.returned ((oneOrTup l).den e') = Ending.returned (out.v.den e'') ∧ PostOp e e'' (hlook hp) nx out w w' := by
      refine ⟨e', by rw [h5], ⟨fun id hid => hm.agree id (by rw [← h2]; exact hid), hm.os, hm.tape, hm.output, hm.size, fun k hk hne => hm.fr k hk ?_, hs'.sat.sub fun id o ho => (h3 id o ho).1, fun id o b ho hf' => ?_, fun id o b ho hf' => ?_⟩⟩
      · rintro ⟨id0, g1, g2, o0, g3, g4⟩
        exact hne id0 (h1 id0 g1 g2) o0 g3 g4
      · by_cases hid : id < nx
        · obtain ⟨o9, h6, hk⟩ := hs'.old id o (h3 _ _ ho).1 hid
          exact .inr ⟨id, (h3 _ _ ho).2 hid, o9, h6, (HO.owns_same (hlow id hid)).2 (hk.owns hf')⟩
        · exact (hs'.own id o b (h3 _ _ ho).1 (by omega) hf').imp (fun h => h) (hwr b)
      · by_cases hid : id < nx
        · obtain ⟨o9, h6, hk⟩ := hs'.old id o (h3 _ _ ho).1 hid
          have h7 := hk e' id b hf'
          by_cases h8 : o9.owns e' id b
          · exact .inr (.inl ⟨id, (h3 _ _ ho).2 hid, o9, h6, (HO.owns_same (hlow id hid)).2 h8⟩)
          · exact .inr (.inr ⟨id, o9, h6, (HO.foot_same (hlow id hid)).2 h7.1, fun h => h8 ((HO.owns_same (hlow id hid)).1 h)⟩)
        · rcases hs'.foot id o b (h3 _ _ ho).1 (by omega) hf' with h6 | h6 | ⟨id0, o0, g1, g2, g3, g4⟩
          · exact .inl h6
          · exact .inr (.inl (hwr b h6))
          · exact .inr (.inr ⟨id0, o0, g2, (HO.foot_same (hlow id0 g1)).2 g3, fun h => g4 ((HO.owns_same (hlow id0 g1)).1 h)⟩)
    rcases hex with rfl | rfl
    · exact ⟨hs'.defers, _, results_ok hs' h4, hpost⟩
    · exact ⟨hs'.defers, _, results_ok hs' h4, hpost⟩
theorem findCon_spec {P : Program} : ∀ (l : List (Con P)) (f : FuncId) (c : Con P), findCon l f = some c → c.f = f := by
  intro l
  induction l with
  | nil => intro f c h; cases h
  | cons x l ih =>
    intro f c h
    simp only [findCon] at h
    cases hb : Nat.beq x.f f with
    | true => rw [hb] at h; cases h; exact Nat.eq_of_beq_eq_true hb
    | false => rw [hb] at h; exact ih f c h
theorem evBody_ok {P : Program} {C : Cfg P} (hf : FactsOk C.facts) {call : CallF Prop} (hcall : CallsOk P call) {callJ : CallF JR} (hcj : ∀ p, GSim (JR.is p) callJ call) {f : FuncId} {args : List RV} {hp : Hp} {nx : Nat} {K : Out → Prop} (hnm : Names args hp nx) (h : evBody algP C call callJ f args hp nx K) : ∃ out, CallOk P f args hp nx out ∧ K out := by
  unfold evBody at h
  split at h
  · rename_i fn hfn
    split at h
    · rename_i c hb
      obtain ⟨ex, s, h1, _, h2⟩ := evCode_ok hf hcall (jnN_ok hf hcall hcj _) c _ _ (names_pad hnm) h
      have fin : evRes algP P fn s nx K → (ex = .normal ∨ ex = .ret) → ∃ out, CallOk P f args hp nx out ∧ K out := by
        intro h2 hex
        obtain ⟨out, k1, k2, k3, k4, k5, l, k6, k7⟩ := evRes_ok h2
        exact ⟨out, callOk_of_to hfn hb hnm (h1.mono fun ex' s' hh => by
          obtain ⟨rfl, rfl⟩ := hh
          exact ⟨hex, k3, k4, k5, l, k6, k7⟩), k1⟩
      cases ex with
      | normal => exact fin h2 (.inl rfl)
      | exit i => exact False.elim h2
      | ret => exact fin h2 (.inr rfl)
    · exact False.elim h
  · exact False.elim h
theorem evCallJ_eq {P : Program} {C : Cfg P} : ∀ n, evCallJ C n = evCall algJ C n := by
  intro n
  induction n with
  | zero => rfl
  | succ n ih => funext f args hp nx K; simp only [evCallJ, evCall, ih]
theorem gsim_J {P : Program} {C : Cfg P} (n : Nat) (p : Ex × St) : GSim (JR.is p) (evCallJ C n) (evCall algP C n) := by
  rw [evCallJ_eq]; exact gsim_call (sound_J p) n
theorem evCall_ok {P : Program} {C : Cfg P} (hf : FactsOk C.facts) : ∀ n, CallsOk P (evCall algP C n) := by
  intro n
  induction n with
  | zero => intro f args hp nx K _ h; exact False.elim h
  | succ n ih =>
    intro f args hp nx K hnm h
    simp only [evCall, fOut_eq] at h
    split at h
    · rename_i c hc
      split at h
      · rename_i out hout
        have := c.ok args hp nx none out hnm hout (fun b hb => by cases hb)
        rw [findCon_spec _ _ _ hc] at this
        exact ⟨out, this, h⟩
      · rename_i b out hout
        obtain ⟨h1, h2⟩ := settle_ok hf h
        have := c.ok args hp nx (some b) out hnm hout (fun b' hb => by cases hb; exact h1)
        rw [findCon_spec _ _ _ hc] at this
        exact ⟨out, this, h2⟩
      · exact evBody_ok hf ih (gsim_J n) hnm h
    · exact evBody_ok hf ih (gsim_J n) hnm h

/-! ### Two rows that are equal -/
def Good (r : Two) : Prop := r.1 = r.2
theorem good_fail {p : Prop} (h : Good algT.fail) : p := by cases h
theorem sound_T : Sound algT Good where
  fail := fun h => good_fail h
  ob := fun h => by
    simp only [Good, algT, List.cons.injEq, Item.ob.injEq, true_and] at h
    exact h
  eqI := fun h => by
    simp only [Good, algT, List.cons.injEq] at h
    exact h
  br := fun h => by simp [Good, algT] at h
theorem sim_land {n0 : Nat} {rn : List (Nat × Option Nat)} {S s : St} {K : Two} {K' : Prop} (hK : Good K → K') (h : Good (evLand algT n0 rn S s K)) : evLand algP n0 rn S s K' := gsim_land sound_T hK h
theorem sim_code {P : Program} {facts : Nat → Option (Bool × Bool)} {call : CallF Two} {call' : CallF Prop} (hc : GSim Good call call') {am : Mode} {n0 : Nat} {hook : Nat → St → Option (LoopCon P)} {jn : JoinF} (c : Code) (st : St) (K : Ex → St → Two) (K' : Ex → St → Prop) (hK : ∀ e s, Good (K e s) → K' e s)
    (h : Good (evCode algT P facts call hook jn n0 am c st K)) : evCode algP P facts call' hook jn n0 am c st K' := gsim_code sound_T hc c st K K' hK h
theorem sim_body {P : Program} {C : Cfg P} {call : CallF Two} {call' : CallF Prop} (hc : GSim Good call call') {callJ : CallF JR} {f : FuncId} {args : List RV} {hp : Hp} {nx : Nat} {K : Out → Two} {K' : Out → Prop} (hK : ∀ out, Good (K out) → K' out) (h : Good (evBody algT C call callJ f args hp nx K)) : evBody algP C call' callJ f args hp nx K' := gsim_body sound_T hc hK h
theorem sim_call {P : Program} {C : Cfg P} (n : Nat) : GSim Good (evCall algT C n) (evCall algP C n) := gsim_call sound_T n
/-! ### Functions of values alone -/
def Out.value (out : Out) : Option Value := bif out.v.ids.isEmpty && out.W.isEmpty then some (out.v.den env0) else none
/-- Arguments are values; so is the answer; nothing that was there is another. -/
theorem value_of {P : Program} {f : FuncId} {args : List RV} {V : Value} {out : Out} (hok : CallOk P f args [] 0 out) (hV : out.value = some V) (w : World) :
    Calls P f (args.map (RV.den env0)).toArray w fun en w' => en = .returned V ∧ Below w.heap.size w w' := by
  refine (hok env0 w ⟨fun id o h => by simp [hlook] at h, fun id o h => by simp [hlook] at h⟩).mono fun en w' ⟨e', hen, hp⟩ => ?_
  unfold Out.value at hV
  cases hb : (out.v.ids.isEmpty && out.W.isEmpty) with
  | false => rw [hb] at hV; cases hV
  | true =>
    rw [hb] at hV
    simp only [cond_true, Option.some.injEq] at hV
    simp only [Bool.and_eq_true, List.isEmpty_iff] at hb
    refine ⟨by rw [hen, ← hV, RV.den_same out.v fun id hid => by rw [hb.1] at hid; cases hid], ⟨hp.os, hp.tape, hp.output, hp.size, fun k hk => hp.fr k hk fun id hid => by rw [hb.2] at hid; cases hid⟩⟩
theorem names_nil {args : List RV} (hids : args.all (fun r => r.ids.isEmpty) = true) : Names args [] 0 := by
  refine ⟨fun r hr i hi => ?_, fun id o h => by simp [hlook] at h⟩
  have := List.all_eq_true.1 hids r hr
  simp only [List.isEmpty_iff] at this
  rw [this] at hi; cases hi
theorem eng_value {P : Program} {C : Cfg P} (hf : FactsOk C.facts) {n : Nat} {f : FuncId} {args : List RV} {V : Value} (hids : args.all (fun r => r.ids.isEmpty) = true)
    (h : evCall algP C n f args [] 0 fun out => out.value = some V) (w : World) :
    Calls P f (args.map (RV.den env0)).toArray w fun en w' => en = .returned V ∧ Below w.heap.size w w' := by
  obtain ⟨out, hok, hV⟩ := evCall_ok hf n f args [] 0 _ (names_nil hids) h
  exact value_of hok hV w
/-- The same by two rows of values, which the kernel compares. -/
def Out.two (V : Value) (out : Out) : Two := match out.value with | some v => ([.v v], [.v V]) | none => ([], [.no])
theorem eng_two {P : Program} {C : Cfg P} (hf : FactsOk C.facts) {n : Nat} {f : FuncId} {args : List RV} {V : Value} (hids : args.all (fun r => r.ids.isEmpty) = true)
    (h : (evCall algT C n f args [] 0 (Out.two V)).1 = (evCall algT C n f args [] 0 (Out.two V)).2) (w : World) :
    Calls P f (args.map (RV.den env0)).toArray w fun en w' => en = .returned V ∧ Below w.heap.size w w' := by
  refine eng_value hf hids (sim_call n _ _ _ _ _ _ (fun out ho => ?_) h) w
  unfold Out.two at ho
  split at ho
  · rename_i v hv
    simp only [Good, List.cons.injEq, and_true, Item.v.injEq] at ho
    rw [hv, ho]
  · cases ho
/-- What a call leaves: its answer, and what lies under the names that are new or hold something else. -/
def outRow (out : Out) : Item := .st [out.v] (out.up.map (·.2))
def Out.full (O : Out) (out : Out) : Two :=
  bif Nat.ble out.nx O.nx && Nat.beq out.W.length O.W.length && (out.W.zip O.W).all (fun p => Nat.beq p.1 p.2) && Nat.beq out.up.length O.up.length && (out.up.zip O.up).all (fun p => Nat.beq p.1.1 p.2.1) then
    fRV out.v.unk fun v => fL fE out.up fun up => ([.st [v] (up.map fun p => p.2.unk)], [.st [O.v.unk] (O.up.map fun p => p.2.unk)]) else algT.fail
theorem zip_beq : ∀ {l l' : List Nat}, l.length = l'.length → ((l.zip l').all fun p => Nat.beq p.1 p.2) = true → l = l' := by
  intro l
  induction l with
  | nil => intro l' h _; cases l' with
    | nil => rfl
    | cons _ _ => cases h
  | cons a l ih =>
    intro l' h h2
    cases l' with
    | nil => cases h
    | cons b l' =>
      simp only [List.zip_cons_cons, List.all_cons, Bool.and_eq_true] at h2
      rw [Nat.eq_of_beq_eq_true h2.1, ih (by simpa using h) h2.2]
theorem keys_eq : ∀ {l l' : Hp}, l.length = l'.length → ((l.zip l').all fun p => Nat.beq p.1.1 p.2.1) = true → l.map (·.1) = l'.map (·.1) := by
  intro l
  induction l with
  | nil => intro l' h _; cases l' with
    | nil => rfl
    | cons _ _ => cases h
  | cons a l ih =>
    intro l' h h2
    cases l' with
    | nil => cases h
    | cons b l' =>
      simp only [List.zip_cons_cons, List.all_cons, Bool.and_eq_true] at h2
      simp only [List.map_cons]
      rw [Nat.eq_of_beq_eq_true h2.1, ih (by simpa using h) h2.2]
theorem hlook_pair : ∀ {l l' : Hp}, l.map (·.1) = l'.map (·.1) → l.map (fun p => p.2.unk) = l'.map (fun p => p.2.unk) → ∀ id o', hlook l' id = some o' → ∃ o, hlook l id = some o ∧ o.unk = o'.unk := by
  intro l
  induction l with
  | nil =>
    intro l' h _ id o' ho
    cases l' with
    | nil => cases ho
    | cons _ _ => cases h
  | cons a l ih =>
    obtain ⟨i, o⟩ := a
    intro l' h h2 id o' ho
    cases l' with
    | nil => cases h
    | cons b l' =>
      obtain ⟨i', o2⟩ := b
      simp only [List.map_cons, List.cons.injEq] at h h2
      obtain ⟨rfl, h⟩ := h
      simp only [hlook] at ho ⊢
      cases hb : Nat.beq i id with
      | true => rw [hb] at ho; cases ho; exact ⟨o, rfl, h2.1⟩
      | false => rw [hb] at ho; exact ih h h2.2 id o' ho
theorem unk_holds_of {e : Env} {w : World} {id : Nat} {o o' : HO} (h : o.unk = o'.unk) : (o'.holds e w id ↔ o.holds e w id) ∧ (∀ b, o'.owns e id b ↔ o.owns e id b) ∧ ∀ b, o'.foot e id b ↔ o.foot e id b :=
  ⟨by rw [← HO.unk_holds (o := o), h, HO.unk_holds], fun b => by rw [← HO.unk_owns (o := o), h, HO.unk_owns], fun b => by rw [← HO.unk_foot (o := o), h, HO.unk_foot]⟩
theorem CallOk.full {P : Program} {f : FuncId} {args : List RV} {hp : Hp} {nx : Nat} {out O : Out} (h : CallOk P f args hp nx out) (hg : Good (Out.full O out)) : CallOk P f args hp nx O := by
  unfold Out.full at hg
  cases hb : (Nat.ble out.nx O.nx && Nat.beq out.W.length O.W.length && (out.W.zip O.W).all (fun p => Nat.beq p.1 p.2) && Nat.beq out.up.length O.up.length && (out.up.zip O.up).all (fun p => Nat.beq p.1.1 p.2.1)) with
  | false => rw [hb] at hg; exact good_fail hg
  | true =>
    rw [hb] at hg
    simp only [cond_true, fRV_eq, fL_eq fE fE_eq, Good, List.cons.injEq, Item.st.injEq, and_true] at hg
    obtain ⟨hv, hu⟩ := hg
    simp only [Bool.and_eq_true] at hb
    obtain ⟨⟨⟨⟨b1, b2⟩, b3⟩, b4⟩, b5⟩ := hb
    have b1 := Nat.le_of_ble_eq_true b1
    have b2 := zip_beq (Nat.eq_of_beq_eq_true b2) b3
    have b4 := keys_eq (Nat.eq_of_beq_eq_true b4) b5
    intro e w hs
    refine (h e w hs).mono fun en w' ⟨e', hen, hp'⟩ => ⟨e', ?_, ?_⟩
    · rw [hen, ← RV.unk_den, hv, RV.unk_den]
    · refine ⟨fun id hid => hp'.agree id (hid.imp_right fun h => Nat.le_trans b1 h), hp'.os, hp'.tape, hp'.output, hp'.size, by rw [← b2]; exact hp'.fr, ⟨fun id o ho => ?_, fun id o ho id' o' ho' hne b hb hf => ?_⟩, fun id o b ho hb => ?_, fun id o b ho hb => ?_⟩
      · obtain ⟨o1, h1, h2⟩ := hlook_pair b4 hu id o ho
        exact (unk_holds_of h2).1.2 (hp'.sat.holds id o1 h1)
      · obtain ⟨o1, h1, h2⟩ := hlook_pair b4 hu id o ho
        obtain ⟨o2, h3, h4⟩ := hlook_pair b4 hu id' o' ho'
        exact hp'.sat.apart id o1 h1 id' o2 h3 hne b (((unk_holds_of (w := w') h2).2.1 b).1 hb) (((unk_holds_of (w := w') h4).2.2 b).1 hf)
      · obtain ⟨o1, h1, h2⟩ := hlook_pair b4 hu id o ho
        rw [← b2]
        exact hp'.own id o1 b h1 (((unk_holds_of (w := w) h2).2.1 b).1 hb)
      · obtain ⟨o1, h1, h2⟩ := hlook_pair b4 hu id o ho
        rw [← b2]
        exact hp'.foot id o1 b h1 (((unk_holds_of (w := w) h2).2.2 b).1 hb)
/-- A call of any kind, by two rows. -/
theorem eng_call {P : Program} {C : Cfg P} (hf : FactsOk C.facts) {n : Nat} {f : FuncId} {args : List RV} {hp : Hp} {nx : Nat} {O : Out} (hnm : namesB ⟨args, hp, nx, []⟩ = true)
    (h : (evBody algT C (evCall algT C n) (evCallJ C n) f args hp nx (Out.full O)).1 = (evBody algT C (evCall algT C n) (evCallJ C n) f args hp nx (Out.full O)).2) : CallOk P f args hp nx O := by
  obtain ⟨out, h1, h2⟩ := evBody_ok hf (evCall_ok hf n) (gsim_J n) (K := fun out => Good (Out.full O out)) (namesB_spec hnm) (sim_body (sim_call n) (fun out ho => ho) h)
  exact h1.full h2
def noFacts : Nat → Option (Bool × Bool) := fun _ => none
theorem noFacts_ok : FactsOk noFacts := fun _ _ _ h => by cases h
end Go.Proofs.Ytonlllijdbjkaaa

/- A symbolic way through the code of a call: contracts as they are laid. No condition. -/
set_option linter.unusedVariables false
namespace Go.Proofs.Ytonlllijdbjkaaa
open Go.RowKit

/-- Settled tests, as a list. -/
def factsL : List (Nat × Bool × Bool) → Nat → Option (Bool × Bool)
  | [], _ => none
  | (n, b, d) :: l, k => bif Nat.beq k n then some (b, d) else factsL l k
theorem factsL_ok {l : List (Nat × Bool × Bool)} (h : ∀ p ∈ l, p.2.1 = p.2.2) : FactsOk (factsL l) := by
  induction l with
  | nil => intro k b d hk; cases hk
  | cons p l ih =>
    obtain ⟨n, b0, d0⟩ := p
    intro k b d hk
    simp only [factsL] at hk
    cases hb : Nat.beq k n with
    | true =>
      rw [hb] at hk
      simp only [cond_true, Option.some.injEq, Prod.mk.injEq] at hk
      have := h (n, b0, d0) (by simp)
      rw [← hk.1, ← hk.2]; exact this
    | false =>
      rw [hb] at hk
      exact ih (fun q hq => h q (by simp [hq])) k b d hk
theorem factsL_nil : FactsOk (factsL []) := factsL_ok (by simp)
theorem factsL_cons {n : Nat} {b d : Bool} {l : List (Nat × Bool × Bool)} (h : b = d) (k : FactsOk (factsL l)) : FactsOk (factsL ((n, b, d) :: l)) := by
  intro j b' d' hj
  simp only [factsL] at hj
  cases hb : Nat.beq j n with
  | true =>
    rw [hb] at hj
    simp only [cond_true, Option.some.injEq, Prod.mk.injEq] at hj
    rw [← hj.1, ← hj.2]; exact h
  | false =>
    rw [hb] at hj
    exact k j b' d' hj
def valsOf : List RV → Option (List Value)
  | [] => some []
  | r :: l => match r.ids, valsOf l with
    | [], some vs => some (r.den env0 :: vs)
    | _, _ => none
theorem valsOf_spec (e : Env) : ∀ (l : List RV) (vs : List Value), valsOf l = some vs → l.map (RV.den e) = vs := by
  intro l
  induction l with
  | nil => intro vs h; simp only [valsOf, Option.some.injEq] at h; subst h; rfl
  | cons r l ih =>
    intro vs h
    simp only [valsOf] at h
    split at h
    · rename_i vs' hr hl
      cases h
      rw [List.map_cons, ih _ hl, RV.den_same r fun id hid => by rw [hr] at hid; cases hid]
    · cases h
theorem callOk_of_below {P : Program} {f : FuncId} {args : List RV} {hp : Hp} {nx : Nat} {vs : List Value} {V : Value} {k : Bool} (hv : valsOf args = some vs)
    (h : ∀ w, Calls P f vs.toArray w fun en w' => en = .returned V ∧ Below w.heap.size w w') : CallOk P f args hp nx (.val nx (RV.ofVal k V)) := by
  intro e w hs
  rw [valsOf_spec e args vs hv]
  refine (h w).mono fun en w' ⟨hen, hb⟩ => ⟨e, by rw [hen, Out.val, RV.den_ofVal], ⟨fun _ _ => .refl _ _, hb.os, hb.tape, hb.output, hb.size, fun k hk _ => hb.block k hk, ⟨fun _ _ h => by simp [Out.val, hlook] at h, fun _ _ h => by simp [Out.val, hlook] at h⟩, fun _ _ _ h => by simp [Out.val, hlook] at h, fun _ _ _ h => by simp [Out.val, hlook] at h⟩⟩
/-- A function of values that answers a value. -/
def conV (P : Program) (f : FuncId) (g : List Value → Option Value) (ok : ∀ vs V, g vs = some V → ∀ w, Calls P f vs.toArray w fun en w' => en = .returned V ∧ Below w.heap.size w w') : Con P where
  f := f
  g := fun args _ nx => match valsOf args with
    | some vs => (match g vs with
      | some V => some (none, .val nx (RV.ofVal (args.all RV.known) V))
      | none => none)
    | none => none
  ok := by
    intro args hp nx p out _ h _
    split at h
    · rename_i vs hv
      split at h
      · rename_i V hV
        cases h
        exact callOk_of_below hv (ok vs V hV)
      · cases h
    · cases h
/-- The same, its answer not taken for written out. -/
def Con.unk {P : Program} (c : Con P) : Con P where
  f := c.f
  g := fun args hp nx => match c.g args hp nx with
    | some (p, out) => some (p, ⟨out.v.unk, out.up, out.nx, out.W⟩)
    | none => none
  ok := by
    intro args hp nx p out hn h hm
    split at h
    · rename_i p' out' ho
      cases h
      intro e w hs
      refine (c.ok args hp nx _ _ hn ho hm e w hs).mono fun en w' ⟨e', hen, hp'⟩ => ⟨e', by rw [hen, RV.unk_den], ⟨hp'.agree, hp'.os, hp'.tape, hp'.output, hp'.size, hp'.fr, hp'.sat, hp'.own, hp'.foot⟩⟩
    · cases h
theorem same_below {P : Program} {f : FuncId} {args : Array Value} {w : World} {V : Value} (h : Calls P f args w fun e w' => e = .returned V ∧ w = w') : Calls P f args w fun en w' => en = .returned V ∧ Below w.heap.size w w' :=
  h.mono fun _ _ ⟨he, hw⟩ => ⟨he, by subst hw; exact Below.refl _ _⟩
def int1 (s : Int → Int) : List Value → Option Value
  | [.int .i64 a] => some (.int .i64 (s a))
  | _ => none
def int2 (s : Int → Int → Int) : List Value → Option Value
  | [.int .i64 a, .int .i64 b] => some (.int .i64 (s a b))
  | _ => none
def int3 (s : Int → Int → Int → Int) : List Value → Option Value
  | [.int .i64 a, .int .i64 b, .int .i64 c] => some (.int .i64 (s a b c))
  | _ => none
def conI1 (P : Program) (f : FuncId) (s : Int → Int) (h : ∀ a w, Calls P f #[.int .i64 a] w fun e w' => e = .returned (.int .i64 (s a)) ∧ w = w') : Con P :=
  conV P f (int1 s) fun vs V hV w => by
    unfold int1 at hV
    split at hV
    · cases hV; exact same_below (h _ w)
    · cases hV
def conI2 (P : Program) (f : FuncId) (s : Int → Int → Int) (h : ∀ a b w, Calls P f #[.int .i64 a, .int .i64 b] w fun e w' => e = .returned (.int .i64 (s a b)) ∧ w = w') : Con P :=
  conV P f (int2 s) fun vs V hV w => by
    unfold int2 at hV
    split at hV
    · cases hV; exact same_below (h _ _ w)
    · cases hV
def conI3 (P : Program) (f : FuncId) (s : Int → Int → Int → Int) (h : ∀ a b c w, Calls P f #[.int .i64 a, .int .i64 b, .int .i64 c] w fun e w' => e = .returned (.int .i64 (s a b c)) ∧ w = w') : Con P :=
  conV P f (int3 s) fun vs V hV w => by
    unfold int3 at hV
    split at hV
    · cases hV; exact same_below (h _ _ _ w)
    · cases hV
/-- A function that always answers one and the same. -/
def conC (P : Program) (f : FuncId) (V : Value) (h : ∀ w, Calls P f #[] w fun e w' => e = .returned V ∧ Below w.heap.size w w') : Con P :=
  conV P f (fun | [] => some V | _ => none) fun vs V' hV w => by
    split at hV
    · cases hV; exact h w
    · cases hV
end Go.Proofs.Ytonlllijdbjkaaa

/- A symbolic way through the code of a call: pieces of code, loops whose number of rounds is open; a call's answer under whatever names. No condition. -/
set_option linter.unusedVariables false
namespace Go.Proofs.Ytonlllijdbjkaaa
open Go.RowKit

def sameEx : Ex → Ex → Bool
  | .normal, .normal => true
  | .exit i, .exit j => Nat.beq i j
  | .ret, .ret => true
  | _, _ => false
theorem sameEx_spec {x y : Ex} (h : sameEx x y = true) : x = y := by
  cases x with
  | normal => cases y with
    | normal => rfl
    | exit j => cases h
    | ret => cases h
  | exit i => cases y with
    | normal => cases h
    | exit j =>
      have h' : Nat.beq i j = true := h
      rw [Nat.eq_of_beq_eq_true h']
    | ret => cases h
  | ret => cases y with
    | normal => cases h
    | exit j => cases h
    | ret => rfl
def landK (n0 : Nat) (ex0 : Ex) (rn : List (Nat × Option Nat)) (S : St) (ex : Ex) (s : St) : Two := bif sameEx ex ex0 then evLand algT n0 rn S s ([], []) else algT.fail
/-- A piece of code, from place to place. -/
theorem eng_piece {P : Program} {C : Cfg P} (hf : FactsOk C.facts) {n : Nat} {f : FuncId} {n0 : Nat} {c : Code} {st S : St} {ex0 : Ex} {rn : List (Nat × Option Nat)}
    (hb : (Nat.ble st.nx S.nx && st.W.all (fun i => Nat.ble n0 i || S.W.any (Nat.beq i))) = true)
    (h : (evCode algT P C.facts (evCall algT C n) (C.hooks f) (jnN P C.facts (evCallJ C n) (C.hooks f) n0 (C.am f) (Nat.ble 100 (C.join f)) (Nat.ble 200 (C.join f)) (C.join f % 100)) n0 (C.am f) c st (landK n0 ex0 rn S)).1 = (evCode algT P C.facts (evCall algT C n) (C.hooks f) (jnN P C.facts (evCallJ C n) (C.hooks f) n0 (C.am f) (Nat.ble 100 (C.join f)) (Nat.ble 200 (C.join f)) (C.join f % 100)) n0 (C.am f) c st (landK n0 ex0 rn S)).2) : CodeTo P n0 c st (At1 ex0 S) := by
  intro hn
  simp only [Bool.and_eq_true, List.all_eq_true, Bool.or_eq_true] at hb
  obtain ⟨ex, s, h1, _, h3⟩ := evCode_ok hf (evCall_ok hf n) (jnN_ok hf (evCall_ok hf n) (gsim_J n) _) c st (fun ex s => Good (landK n0 ex0 rn S ex s)) hn (sim_code (sim_call n) c st _ _ (fun ex s hg => hg) h)
  refine CodeTo.land h1 (Nat.le_of_ble_eq_true hb.1) (fun i hi hlt => ?_) (fun ex' s' hh => ?_) hn
  · rcases hb.2 i hi with h' | h'
    · have := Nat.le_of_ble_eq_true h'; omega
    · obtain ⟨q, hq, hbq⟩ := List.any_eq_true.1 h'; rw [Nat.eq_of_beq_eq_true hbq]; exact hq
  · obtain ⟨rfl, rfl⟩ := hh
    unfold landK at h3
    cases hs : sameEx ex' ex0 with
    | false => rw [hs] at h3; exact good_fail h3
    | true =>
      rw [hs] at h3
      have h4 := sim_land (K' := True) (fun _ => trivial) h3
      unfold evLand at h4
      cases hl : landB n0 rn S s' with
      | false => rw [hl] at h4; exact False.elim h4
      | true =>
        rw [hl] at h4
        simp only [cond_true] at h4
        split at h4
        · rename_i p hp
          have h5 := h4.1
          simp only [Item.st.injEq] at h5
          exact ⟨⟨sameEx_spec hs, rfl⟩, rn, p, hl, hp, h5.1, h5.2⟩
        · exact False.elim h4
/-- A loop's rounds: on, or out. -/
def iter {V R : Type} (step : V → Option (V ⊕ R)) : Nat → V → Option R
  | 0, _ => none
  | n + 1, v => match step v with
    | none => none
    | some (.inl v') => iter step n v'
    | some (.inr r) => some r
def exOut (id : Nat) : Ex → Ex
  | .exit i => bif Nat.beq i id then .normal else .exit i
  | e => e
def StepOk {V R : Type} (P : Program) (n0 : Nat) (c : Code) (S : V → St) (T : R → Ex × St) (v : V) : Option (V ⊕ R) → Prop
  | none => True
  | some (.inl v') => CodeTo P n0 c (S v) (At1 .normal (S v'))
  | some (.inr r) => (T r).1 ≠ .normal ∧ CodeTo P n0 c (S v) (At1 (T r).1 (T r).2)
theorem CodeTo.iter {V R : Type} {P : Program} {n0 : Nat} {c : Code} {S : V → St} {T : R → Ex × St} {id : Nat} {step : V → Option (V ⊕ R)} (hs : ∀ v, StepOk P n0 c S T v (step v)) {n : Nat} {v : V} {r : R} (h : iter step n v = some r) :
    CodeTo P n0 (.block id (.loop c)) (S v) (At1 (exOut id (T r).1) (T r).2) := by
  have key : ∀ (n : Nat) (v : V) (r : R), Go.Proofs.Ytonlllijdbjkaaa.iter step n v = some r → RoundsTo P n0 c n (S v) (At1 (T r).1 (T r).2) ∧ (T r).1 ≠ .normal := by
    intro n
    induction n with
    | zero => intro v r h; cases h
    | succ n ih =>
      intro v r h
      have hv := hs v
      simp only [Go.Proofs.Ytonlllijdbjkaaa.iter] at h
      split at h
      · cases h
      · rename_i v' hv'
        rw [hv'] at hv
        have h2 := ih v' r h
        exact ⟨RoundsTo.round hv (fun s hs => by rw [hs.2]; exact h2.1) (fun ex s hne hR => absurd hR.1 hne), h2.2⟩
      · rename_i r' hr'
        rw [hr'] at hv
        cases h
        exact ⟨RoundsTo.round hv.2 (fun s hs => absurd hs.1.symm hv.1) (fun ex s hne hR => hR), hv.1⟩
  obtain ⟨h1, h2⟩ := key n v r h
  refine CodeTo.block (CodeTo.loop h1) (fun s hs => absurd hs.1.symm h2) (fun s hs => ⟨?_, hs.2⟩) (fun i s hne hs => ⟨?_, hs.2⟩) (fun s hs => ⟨?_, hs.2⟩)
  · rw [← hs.1]; simp [exOut, Nat.beq_refl]
  · rw [← hs.1]
    cases hb : Nat.beq i id with
    | true => exact absurd (Nat.eq_of_beq_eq_true hb) hne
    | false => simp [exOut, hb]
  · rw [← hs.1]; rfl

/-! ### A call's answer, under the caller's names -/
/-- r: the call's own names, each the caller's. Names from nx0 on are new: they become nx, nx + 1 .. -/
def instId (r : List Nat) (nx0 nx id : Nat) : Nat := bif Nat.blt id nx0 then r.getD id 0 else id - nx0 + nx
def CV.inst (g : Nat → Nat) : CV → CV
  | .val k v => .val k v
  | .ptr id off => .ptr (g id) off
  | .eptr id off => .eptr (g id) off
  | .sl id off len cap => .sl (g id) off len cap
  | .ext id => .ext (g id)
  | .fn f caps => .fn f (caps.map fun p => (g p.1, p.2))
  | .bm f cs => .bm f (cs.map (bmMap g))
  | .tab k n l => .tab k n l
def SV.inst (g : Nat → Nat) : SV → SV
  | .one c => .one (c.inst g)
  | .agg cs => .agg (cs.map (CV.inst g))
def RV.inst (g : Nat → Nat) : RV → RV
  | .sv s => .sv (s.inst g)
  | .tup l => .tup (l.map (SV.inst g))
  | .dead => .dead
def HO.inst (g : Nat → Nat) : HO → HO
  | .cells cs t => .cells (cs.map (CV.inst g)) t
  | .elem id i w => .elem (g id) i w
  | .tie b k x => .tie b (g k) x
  | .part id i w n => .part (g id) i w n
  | .lent cs t => .lent (cs.map (CV.inst g)) t
  | o => o
def Out.inst (g : Nat → Nat) (nx : Nat) (out : Out) : Out := ⟨out.v.inst g, out.up.map (fun p => (g p.1, p.2.inst g)), nx, out.W.map g⟩
theorem CV.inst_den {g : Nat → Nat} {e e0 : Env} {c : CV} (h : ∀ id ∈ c.ids, e.ρ (g id) = e0.ρ id ∧ e.σ (g id) = e0.σ id) : (c.inst g).den e = c.den e0 := by
  cases c with
  | val k v => rfl
  | ptr id off => simp [CV.inst, CV.den, (h id (by simp [CV.ids])).1]
  | eptr id off => simp [CV.inst, CV.den, Env.blk, Env.off, (h id (by simp [CV.ids])).2]
  | sl id off len cap => simp [CV.inst, CV.den, (h id (by simp [CV.ids])).1]
  | ext id => simp [CV.inst, CV.den, Env.slv, (h id (by simp [CV.ids])).2]
  | fn f caps =>
    simp only [CV.inst, CV.den, Value.func.injEq, true_and, List.map_map]
    congr 1
    refine List.map_congr_left fun p hp => ?_
    have := (h p.1 (by simp only [CV.ids, List.mem_map]; exact ⟨p, hp, rfl⟩)).1
    simp [Function.comp, Env.ptr, this]
  | bm f cs =>
    have : (cs.map (bmMap g)).map (bmDen e) = cs.map (bmDen e0) := by
      rw [List.map_map]
      refine List.map_congr_left fun p hp => ?_
      cases p with
      | inl v => rfl
      | inr id => simp [bmMap, bmDen, Env.slv, (h id (by simp only [CV.ids, List.mem_flatMap]; exact ⟨_, hp, by simp [bmIds]⟩)).2]
      | sl id off len cap => simp [bmMap, bmDen, (h id (by simp only [CV.ids, List.mem_flatMap]; exact ⟨_, hp, by simp [bmIds]⟩)).1]
    simp only [CV.inst, CV.den, this]
  | tab k n l => rfl
theorem SV.inst_den {g : Nat → Nat} {e e0 : Env} {s : SV} (h : ∀ id ∈ s.ids, e.ρ (g id) = e0.ρ id ∧ e.σ (g id) = e0.σ id) : (s.inst g).den e = s.den e0 := by
  cases s with
  | one c => exact CV.inst_den h
  | agg cs =>
    simp only [SV.inst, SV.den, List.map_map]
    congr 2
    exact List.map_congr_left fun c hc => CV.inst_den fun id hi => h id (List.mem_flatMap.2 ⟨c, hc, hi⟩)
theorem RV.inst_den {g : Nat → Nat} {e e0 : Env} {r : RV} (h : ∀ id ∈ r.ids, e.ρ (g id) = e0.ρ id ∧ e.σ (g id) = e0.σ id) : (r.inst g).den e = r.den e0 := by
  cases r with
  | sv s => exact SV.inst_den h
  | tup l =>
    simp only [RV.inst, RV.den, List.map_map]
    congr 2
    exact List.map_congr_left fun c hc => SV.inst_den fun id hi => h id (List.mem_flatMap.2 ⟨c, hc, hi⟩)
  | dead => rfl
structure SameAt (g : Nat → Nat) (e e0 : Env) (id : Nat) : Prop where
  ρ : e.ρ (g id) = e0.ρ id
  σ : e.σ (g id) = e0.σ id
  φ : e.φ (g id) = e0.φ id
theorem HO.inst_holds {g : Nat → Nat} {e e0 : Env} {w : World} {id : Nat} {o : HO} (hid : SameAt g e e0 id) (h : ∀ i ∈ o.ids, SameAt g e e0 i) : ((o.inst g).holds e w (g id) ↔ o.holds e0 w id) ∧ (∀ b, (o.inst g).owns e (g id) b ↔ o.owns e0 id b) ∧ ∀ b, (o.inst g).foot e (g id) b ↔ o.foot e0 id b := by
  have hslv : e.slv (g id) = e0.slv id := by simp [Env.slv, hid.σ]
  cases o with
  | cells cs t =>
    have : (cs.map (CV.inst g)).map (CV.den e) = cs.map (CV.den e0) := by
      rw [List.map_map]
      exact List.map_congr_left fun c hc => CV.inst_den fun i hi => ⟨(h i (List.mem_flatMap.2 ⟨c, hc, hi⟩)).ρ, (h i (List.mem_flatMap.2 ⟨c, hc, hi⟩)).σ⟩
    simp only [HO.inst, HO.holds, HO.owns, HO.foot, this, hid.ρ, implies_true, and_self]
  | grid sh l => simp only [HO.inst, HO.holds, HO.owns, HO.foot, hslv, hid.φ, implies_true, and_self]
  | row sh t l => simp only [HO.inst, HO.holds, HO.owns, HO.foot, hslv, hid.φ, implies_true, and_self]
  | elem i q wd =>
    have := h i (by simp [HO.ids])
    simp only [HO.inst, HO.holds, HO.owns, HO.foot, this.σ, hid.σ, implies_true, and_self]
  | gone => simp only [HO.inst, HO.holds, HO.owns, HO.foot, implies_true, and_self]
  | tie b k x =>
    have := h k (by simp [HO.ids])
    simp only [HO.inst, HO.holds, HO.owns, HO.foot, this.σ, implies_true, and_self]
  | part i q wd m =>
    have := h i (by simp [HO.ids])
    simp only [HO.inst, HO.holds, HO.owns, HO.foot, this.σ, hid.σ, implies_true, and_self]
  | lent cs t =>
    have : (cs.map (CV.inst g)).map (CV.den e) = cs.map (CV.den e0) := by
      rw [List.map_map]
      exact List.map_congr_left fun c hc => CV.inst_den fun i hi => ⟨(h i (List.mem_flatMap.2 ⟨c, hc, hi⟩)).ρ, (h i (List.mem_flatMap.2 ⟨c, hc, hi⟩)).σ⟩
    simp only [HO.inst, HO.holds, HO.owns, HO.foot, this, hid.ρ, implies_true, and_self]
theorem hlook_inst {g : Nat → Nat} {B : Nat → Prop} (hg : ∀ i j, B i → B j → g i = g j → i = j) : ∀ {hp : Hp} {id : Nat} {o : HO}, (∀ p ∈ hp, B p.1) → hlook (hp.map fun p => (g p.1, p.2.inst g)) id = some o → ∃ i o', id = g i ∧ hlook hp i = some o' ∧ o = o'.inst g := by
  intro hp
  induction hp with
  | nil => intro id o _ h; cases h
  | cons p hp ih =>
    obtain ⟨i, o1⟩ := p
    intro id o hb h
    simp only [List.map_cons, hlook] at h
    cases hbq : Nat.beq (g i) id with
    | true =>
      rw [hbq] at h
      cases h
      refine ⟨i, o1, (Nat.eq_of_beq_eq_true hbq).symm, ?_, rfl⟩
      simp [hlook, Nat.beq_refl]
    | false =>
      rw [hbq] at h
      obtain ⟨j, o2, h1, h2, h3⟩ := ih (fun q hq => hb q (List.mem_cons_of_mem _ hq)) h
      refine ⟨j, o2, h1, ?_, h3⟩
      simp only [hlook]
      cases hij : Nat.beq i j with
      | true =>
        have : i = j := Nat.eq_of_beq_eq_true hij
        rw [this, ← h1, Nat.beq_refl] at hbq
        cases hbq
      | false => exact h2
theorem hlook_inst_of {g : Nat → Nat} (hg : ∀ i j, g i = g j → i = j) : ∀ {hp : Hp} {id : Nat} {o : HO}, hlook (hp.map fun p => (g p.1, p.2.inst g)) id = some o → ∃ i o', id = g i ∧ hlook hp i = some o' ∧ o = o'.inst g :=
  fun h => hlook_inst (B := fun _ => True) (fun i j _ _ => hg i j) (fun _ _ => trivial) h
def outB (nx0 : Nat) (out : Out) : Bool := Nat.ble nx0 out.nx && out.v.ids.all (fun i => Nat.blt i out.nx) && out.up.all (fun p => Nat.blt p.1 out.nx && p.2.ids.all fun i => Nat.blt i out.nx) && out.W.all (fun i => Nat.blt i nx0)
theorem instId_inj {r : List Nat} {nx0 nx : Nat} (hr : r.length = nx0) (hd : r.Nodup) (hlt : ∀ i ∈ r, i < nx) : ∀ i j, instId r nx0 nx i = instId r nx0 nx j → i = j := by
  have low : ∀ i, i < nx0 → instId r nx0 nx i = r.getD i 0 ∧ instId r nx0 nx i < nx := by
    intro i hi
    have h1 : instId r nx0 nx i = r.getD i 0 := by unfold instId; rw [show Nat.blt i nx0 = true from Nat.ble_eq_true_of_le hi]; rfl
    refine ⟨h1, ?_⟩
    rw [h1, List.getD_eq_getElem?_getD, List.getElem?_eq_getElem (by omega)]
    exact hlt _ (List.getElem_mem _)
  have high : ∀ i, ¬ i < nx0 → instId r nx0 nx i = i - nx0 + nx := by
    intro i hi
    unfold instId
    cases hb : Nat.blt i nx0 with
    | true => exact absurd (blt_spec hb) hi
    | false => rfl
  intro i j h
  by_cases hi : i < nx0 <;> by_cases hj : j < nx0
  · rw [(low i hi).1, (low j hj).1] at h
    rw [List.getD_eq_getElem?_getD, List.getElem?_eq_getElem (by omega), List.getD_eq_getElem?_getD, List.getElem?_eq_getElem (by omega)] at h
    have h' : r[i]'(by omega) = r[j]'(by omega) := h
    rcases Nat.lt_trichotomy i j with hlt' | heq | hgt
    · exact absurd h' (List.pairwise_iff_getElem.1 hd i j (by omega) (by omega) hlt')
    · exact heq
    · exact absurd h'.symm (List.pairwise_iff_getElem.1 hd j i (by omega) (by omega) hgt)
  · have := (low i hi).2; rw [h, high j hj] at this; omega
  · have := (low j hj).2; rw [← h, high i hi] at this; omega
  · rw [high i hi, high j hj] at h; omega
theorem CallOk.inst {P : Program} {f : FuncId} {args0 args : List RV} {hp0 hp : Hp} {nx0 nx : Nat} {out0 : Out} {r : List Nat} (h : CallOk P f args0 hp0 nx0 out0) (hn0 : namesB ⟨args0, hp0, nx0, []⟩ = true) (hout : outB nx0 out0 = true)
    (hr : r.length = nx0) (hd : r.Nodup) (hlt : ∀ i ∈ r, i < nx) (hargs : args.map RV.unk = (args0.map (RV.inst (instId r nx0 nx))).map RV.unk)
    (hhp : ∀ id o0, hlook hp0 id = some o0 → ∃ o, hlook hp (instId r nx0 nx id) = some o ∧ o.unk = (o0.inst (instId r nx0 nx)).unk) :
    CallOk P f args hp nx (out0.inst (instId r nx0 nx) (nx + (out0.nx - nx0))) := by
  have hinj := instId_inj hr hd hlt
  have hN := namesB_spec hn0
  simp only [outB, Bool.and_eq_true, List.all_eq_true] at hout
  obtain ⟨⟨⟨o1, o2⟩, o3⟩, o4⟩ := hout
  have o1 := Nat.le_of_ble_eq_true o1
  have glow : ∀ id, id < nx0 → instId r nx0 nx id < nx := by
    intro i hi
    have h1 : instId r nx0 nx i = r.getD i 0 := by unfold instId; rw [show Nat.blt i nx0 = true from Nat.ble_eq_true_of_le hi]; rfl
    rw [h1, List.getD_eq_getElem?_getD, List.getElem?_eq_getElem (by omega)]
    exact hlt _ (List.getElem_mem _)
  have ghigh : ∀ id, ¬ id < nx0 → instId r nx0 nx id = id - nx0 + nx := by
    intro i hi
    unfold instId
    cases hb : Nat.blt i nx0 with
    | true => exact absurd (blt_spec hb) hi
    | false => rfl
  generalize instId r nx0 nx = g at *
  intro e w hs
  let e0 : Env := ⟨fun id => e.ρ (g id), fun id => e.σ (g id), fun id => e.φ (g id)⟩
  have hs0 : ∀ id, SameAt g e e0 id := fun id => ⟨rfl, rfl, rfl⟩
  have conv : ∀ (id : Nat) (o0 o : HO), o.unk = (o0.inst g).unk → (o.holds e w (g id) ↔ o0.holds e0 w id) ∧ (∀ b, o.owns e (g id) b ↔ o0.owns e0 id b) ∧ ∀ b, o.foot e (g id) b ↔ o0.foot e0 id b := by
    intro id o0 o hu
    have k1 := unk_holds_of (e := e) (w := w) (id := g id) hu.symm
    have k2 := HO.inst_holds (w := w) (hs0 id) (o := o0) fun i _ => hs0 i
    exact ⟨k1.1.trans k2.1, fun b => (k1.2.1 b).trans (k2.2.1 b), fun b => (k1.2.2 b).trans (k2.2.2 b)⟩
  have hsat0 : Sat e0 (hlook hp0) w := by
    refine ⟨fun id o0 ho => ?_, fun id o0 ho id' o0' ho' hne b hb hf => ?_⟩
    · obtain ⟨o, h1, h2⟩ := hhp id o0 ho
      exact (conv id o0 o h2).1.1 (hs.holds _ _ h1)
    · obtain ⟨o, h1, h2⟩ := hhp id o0 ho
      obtain ⟨o', h3, h4⟩ := hhp id' o0' ho'
      exact hs.apart _ o h1 _ o' h3 (fun h => hne (hinj _ _ h)) b (((conv id o0 o h2).2.1 b).2 hb) (((conv id' o0' o' h4).2.2 b).2 hf)
  have hden : args.map (RV.den e) = args0.map (RV.den e0) := by
    have h1 : args.map (RV.den e) = (args.map RV.unk).map (RV.den e) := by
      rw [List.map_map]; exact List.map_congr_left fun r _ => (RV.unk_den e r).symm
    have h2 : args0.map (RV.den e0) = ((args0.map (RV.inst g)).map RV.unk).map (RV.den e) := by
      rw [List.map_map, List.map_map]
      exact List.map_congr_left fun r _ => by
        simp only [Function.comp]
        rw [RV.unk_den]
        exact (RV.inst_den (g := g) (e := e) (e0 := e0) fun id _ => ⟨rfl, rfl⟩).symm
    rw [h1, hargs, h2]
  rw [hden]
  refine (h e0 w hsat0).mono fun en w' ⟨e0', hen, hp'⟩ => ?_
  let m := nx + (out0.nx - nx0)
  let e' : Env := ⟨fun id => if id < nx then e.ρ id else if id < m then e0'.ρ (id - nx + nx0) else e.ρ id, fun id => if id < nx then e.σ id else if id < m then e0'.σ (id - nx + nx0) else e.σ id,
    fun id => if id < nx then e.φ id else if id < m then e0'.φ (id - nx + nx0) else e.φ id⟩
  have hs1 : ∀ id, id < out0.nx → SameAt g e' e0' id := by
    intro id hid
    by_cases hl : id < nx0
    · have hg := glow id hl
      have ha := hp'.agree id (.inl hl)
      exact ⟨by simp only [e', hg, if_true]; exact ha.1.symm, by simp only [e', hg, if_true]; exact ha.2.1.symm, by simp only [e', hg, if_true]; exact ha.2.2.symm⟩
    · have hg := ghigh id hl
      have h1 : ¬ g id < nx := by omega
      have h2 : g id < m := by simp only [m]; omega
      have h3 : g id - nx + nx0 = id := by omega
      exact ⟨by simp only [e', h1, h2, if_false, if_true, h3], by simp only [e', h1, h2, if_false, if_true, h3], by simp only [e', h1, h2, if_false, if_true, h3]⟩
  have upok : ∀ id o0, hlook out0.up id = some o0 → id < out0.nx ∧ ∀ i ∈ o0.ids, i < out0.nx := fun id o0 ho => ⟨blt_spec (o3 _ (hlook_mem ho)).1, fun i hi => blt_spec ((o3 _ (hlook_mem ho)).2 i hi)⟩
  have conv' : ∀ id o0, hlook out0.up id = some o0 → ((o0.inst g).holds e' w' (g id) ↔ o0.holds e0' w' id) ∧ (∀ b, (o0.inst g).owns e' (g id) b ↔ o0.owns e0' id b) ∧ ∀ b, (o0.inst g).foot e' (g id) b ↔ o0.foot e0' id b :=
    fun id o0 ho => HO.inst_holds (hs1 id (upok id o0 ho).1) fun i hi => hs1 i ((upok id o0 ho).2 i hi)
  have wr : ∀ b, (∃ id0 ∈ out0.W, ∃ o0, hlook hp0 id0 = some o0 ∧ o0.owns e0 id0 b) → ∃ id0 ∈ out0.W.map g, ∃ o, hlook hp id0 = some o ∧ o.owns e id0 b := by
    rintro b ⟨id0, k1, o0, k2, k3⟩
    obtain ⟨o, k4, k5⟩ := hhp id0 o0 k2
    exact ⟨g id0, List.mem_map.2 ⟨id0, k1, rfl⟩, o, k4, ((conv id0 o0 o k5).2.1 b).2 k3⟩
  refine ⟨e', ?_, ⟨fun id hid => ?_, hp'.os, hp'.tape, hp'.output, hp'.size, fun k hk hne => hp'.fr k hk fun id hid o0 ho hb => ?_, ⟨fun id o ho => ?_, fun id o ho id' o' ho' hne b hb hf => ?_⟩, fun id o b ho hb => ?_, fun id o b ho hb => ?_⟩⟩
  · rw [hen]
    simp only [Out.inst]
    rw [RV.inst_den fun id hid => ⟨(hs1 id (blt_spec (o2 id hid))).ρ, (hs1 id (blt_spec (o2 id hid))).σ⟩]
  · simp only [Out.inst] at hid
    rcases hid with hid | hid
    · exact ⟨by simp only [e', hid, if_true], by simp only [e', hid, if_true], by simp only [e', hid, if_true]⟩
    · have h1 : ¬ id < nx := by omega
      have h2 : ¬ id < m := by simp only [m]; omega
      exact ⟨by simp only [e', h1, h2, if_false], by simp only [e', h1, h2, if_false], by simp only [e', h1, h2, if_false]⟩
  · obtain ⟨o, k4, k5⟩ := hhp id o0 ho
    exact hne (g id) (List.mem_map.2 ⟨id, hid, rfl⟩) o k4 (((conv id o0 o k5).2.1 k).2 hb)
  · obtain ⟨i, o0, rfl, h2, rfl⟩ := hlook_inst_of hinj ho
    exact (conv' i o0 h2).1.2 (hp'.sat.holds i o0 h2)
  · obtain ⟨i, o0, rfl, h2, rfl⟩ := hlook_inst_of hinj ho
    obtain ⟨j, o0', rfl, h4, rfl⟩ := hlook_inst_of hinj ho'
    exact hp'.sat.apart i o0 h2 j o0' h4 (fun h => hne (by rw [h])) b (((conv' i o0 h2).2.1 b).1 hb) (((conv' j o0' h4).2.2 b).1 hf)
  · obtain ⟨i, o0, rfl, h2, rfl⟩ := hlook_inst_of hinj ho
    exact (hp'.own i o0 b h2 (((conv' i o0 h2).2.1 b).1 hb)).imp (fun h => h) (wr b)
  · obtain ⟨i, o0, rfl, h2, rfl⟩ := hlook_inst_of hinj ho
    rcases hp'.foot i o0 b h2 (((conv' i o0 h2).2.2 b).1 hb) with k | k | ⟨id0, o1, k1, k2, k3⟩
    · exact .inl k
    · exact .inr (.inl (wr b k))
    · obtain ⟨o, k4, k5⟩ := hhp id0 o1 k1
      exact .inr (.inr ⟨g id0, o, k4, ((conv id0 o1 o k5).2.2 b).2 k2, fun h => k3 (((conv id0 o1 o k5).2.1 b).1 h)⟩)
def HO.isGrid : HO → Bool
  | .grid _ _ => true
  | .tie _ _ _ => true
  | _ => false
theorem CallOk.instG {P : Program} {f : FuncId} {args0 args : List RV} {hp0 hp : Hp} {nx0 nx : Nat} {out0 : Out} {r : List Nat} (h : CallOk P f args0 hp0 nx0 out0) (hn0 : namesB ⟨args0, hp0, nx0, []⟩ = true) (hout : outB nx0 out0 = true)
    (hr : r.length = nx0) (hG : hp0.all (fun p => p.2.isGrid) = true) (hU : out0.up.all (fun p => Nat.ble nx0 p.1) = true) (hlt : ∀ i ∈ r, i < nx) (hargs : args.map RV.unk = (args0.map (RV.inst (instId r nx0 nx))).map RV.unk)
    (hhp : ∀ id o0, hlook hp0 id = some o0 → ∃ o, hlook hp (instId r nx0 nx id) = some o ∧ o.unk = (o0.inst (instId r nx0 nx)).unk) :
    CallOk P f args hp nx (out0.inst (instId r nx0 nx) (nx + (out0.nx - nx0))) := by
  have hN := namesB_spec hn0
  simp only [outB, Bool.and_eq_true, List.all_eq_true] at hout
  obtain ⟨⟨⟨o1, o2⟩, o3⟩, o4⟩ := hout
  have o1 := Nat.le_of_ble_eq_true o1
  have glow : ∀ id, id < nx0 → instId r nx0 nx id < nx := by
    intro i hi
    have h1 : instId r nx0 nx i = r.getD i 0 := by unfold instId; rw [show Nat.blt i nx0 = true from Nat.ble_eq_true_of_le hi]; rfl
    rw [h1, List.getD_eq_getElem?_getD, List.getElem?_eq_getElem (by omega)]
    exact hlt _ (List.getElem_mem _)
  have ghigh : ∀ id, ¬ id < nx0 → instId r nx0 nx id = id - nx0 + nx := by
    intro i hi
    unfold instId
    cases hb : Nat.blt i nx0 with
    | true => exact absurd (blt_spec hb) hi
    | false => rfl
  have hinj : ∀ i j, nx0 ≤ i → nx0 ≤ j → instId r nx0 nx i = instId r nx0 nx j → i = j := by
    intro i j hi hj h
    rw [ghigh i (by omega), ghigh j (by omega)] at h; omega
  have hU' : ∀ p ∈ out0.up, nx0 ≤ p.1 := fun p hp => Nat.le_of_ble_eq_true (List.all_eq_true.1 hU p hp)
  generalize instId r nx0 nx = g at *
  intro e w hs
  let e0 : Env := ⟨fun id => e.ρ (g id), fun id => e.σ (g id), fun id => e.φ (g id)⟩
  have hs0 : ∀ id, SameAt g e e0 id := fun id => ⟨rfl, rfl, rfl⟩
  have conv : ∀ (id : Nat) (o0 o : HO), o.unk = (o0.inst g).unk → (o.holds e w (g id) ↔ o0.holds e0 w id) ∧ (∀ b, o.owns e (g id) b ↔ o0.owns e0 id b) ∧ ∀ b, o.foot e (g id) b ↔ o0.foot e0 id b := by
    intro id o0 o hu
    have k1 := unk_holds_of (e := e) (w := w) (id := g id) hu.symm
    have k2 := HO.inst_holds (w := w) (hs0 id) (o := o0) fun i _ => hs0 i
    exact ⟨k1.1.trans k2.1, fun b => (k1.2.1 b).trans (k2.2.1 b), fun b => (k1.2.2 b).trans (k2.2.2 b)⟩
  have hsat0 : Sat e0 (hlook hp0) w := by
    refine ⟨fun id o0 ho => ?_, fun id o0 ho id' o0' ho' hne b hb hf => ?_⟩
    · obtain ⟨o, h1, h2⟩ := hhp id o0 ho
      exact (conv id o0 o h2).1.1 (hs.holds _ _ h1)
    · have := List.all_eq_true.1 hG _ (hlook_mem ho)
      cases o0 with
      | grid _ _ => exact hb
      | tie _ _ _ => exact hb
      | part _ _ _ _ => exact hb
      | _ => cases this
  have hden : args.map (RV.den e) = args0.map (RV.den e0) := by
    have h1 : args.map (RV.den e) = (args.map RV.unk).map (RV.den e) := by
      rw [List.map_map]; exact List.map_congr_left fun r _ => (RV.unk_den e r).symm
    have h2 : args0.map (RV.den e0) = ((args0.map (RV.inst g)).map RV.unk).map (RV.den e) := by
      rw [List.map_map, List.map_map]
      exact List.map_congr_left fun r _ => by
        simp only [Function.comp]
        rw [RV.unk_den]
        exact (RV.inst_den (g := g) (e := e) (e0 := e0) fun id _ => ⟨rfl, rfl⟩).symm
    rw [h1, hargs, h2]
  rw [hden]
  refine (h e0 w hsat0).mono fun en w' ⟨e0', hen, hp'⟩ => ?_
  let m := nx + (out0.nx - nx0)
  let e' : Env := ⟨fun id => if id < nx then e.ρ id else if id < m then e0'.ρ (id - nx + nx0) else e.ρ id, fun id => if id < nx then e.σ id else if id < m then e0'.σ (id - nx + nx0) else e.σ id,
    fun id => if id < nx then e.φ id else if id < m then e0'.φ (id - nx + nx0) else e.φ id⟩
  have hs1 : ∀ id, id < out0.nx → SameAt g e' e0' id := by
    intro id hid
    by_cases hl : id < nx0
    · have hg := glow id hl
      have ha := hp'.agree id (.inl hl)
      exact ⟨by simp only [e', hg, if_true]; exact ha.1.symm, by simp only [e', hg, if_true]; exact ha.2.1.symm, by simp only [e', hg, if_true]; exact ha.2.2.symm⟩
    · have hg := ghigh id hl
      have h1 : ¬ g id < nx := by omega
      have h2 : g id < m := by simp only [m]; omega
      have h3 : g id - nx + nx0 = id := by omega
      exact ⟨by simp only [e', h1, h2, if_false, if_true, h3], by simp only [e', h1, h2, if_false, if_true, h3], by simp only [e', h1, h2, if_false, if_true, h3]⟩
  have upok : ∀ id o0, hlook out0.up id = some o0 → id < out0.nx ∧ ∀ i ∈ o0.ids, i < out0.nx := fun id o0 ho => ⟨blt_spec (o3 _ (hlook_mem ho)).1, fun i hi => blt_spec ((o3 _ (hlook_mem ho)).2 i hi)⟩
  have conv' : ∀ id o0, hlook out0.up id = some o0 → ((o0.inst g).holds e' w' (g id) ↔ o0.holds e0' w' id) ∧ (∀ b, (o0.inst g).owns e' (g id) b ↔ o0.owns e0' id b) ∧ ∀ b, (o0.inst g).foot e' (g id) b ↔ o0.foot e0' id b :=
    fun id o0 ho => HO.inst_holds (hs1 id (upok id o0 ho).1) fun i hi => hs1 i ((upok id o0 ho).2 i hi)
  have wr : ∀ b, (∃ id0 ∈ out0.W, ∃ o0, hlook hp0 id0 = some o0 ∧ o0.owns e0 id0 b) → ∃ id0 ∈ out0.W.map g, ∃ o, hlook hp id0 = some o ∧ o.owns e id0 b := by
    rintro b ⟨id0, k1, o0, k2, k3⟩
    obtain ⟨o, k4, k5⟩ := hhp id0 o0 k2
    exact ⟨g id0, List.mem_map.2 ⟨id0, k1, rfl⟩, o, k4, ((conv id0 o0 o k5).2.1 b).2 k3⟩
  refine ⟨e', ?_, ⟨fun id hid => ?_, hp'.os, hp'.tape, hp'.output, hp'.size, fun k hk hne => hp'.fr k hk fun id hid o0 ho hb => ?_, ⟨fun id o ho => ?_, fun id o ho id' o' ho' hne b hb hf => ?_⟩, fun id o b ho hb => ?_, fun id o b ho hb => ?_⟩⟩
  · rw [hen]
    simp only [Out.inst]
    rw [RV.inst_den fun id hid => ⟨(hs1 id (blt_spec (o2 id hid))).ρ, (hs1 id (blt_spec (o2 id hid))).σ⟩]
  · simp only [Out.inst] at hid
    rcases hid with hid | hid
    · exact ⟨by simp only [e', hid, if_true], by simp only [e', hid, if_true], by simp only [e', hid, if_true]⟩
    · have h1 : ¬ id < nx := by omega
      have h2 : ¬ id < m := by simp only [m]; omega
      exact ⟨by simp only [e', h1, h2, if_false], by simp only [e', h1, h2, if_false], by simp only [e', h1, h2, if_false]⟩
  · obtain ⟨o, k4, k5⟩ := hhp id o0 ho
    exact hne (g id) (List.mem_map.2 ⟨id, hid, rfl⟩) o k4 (((conv id o0 o k5).2.1 k).2 hb)
  · obtain ⟨i, o0, rfl, h2, rfl⟩ := hlook_inst hinj hU' ho
    exact (conv' i o0 h2).1.2 (hp'.sat.holds i o0 h2)
  · obtain ⟨i, o0, rfl, h2, rfl⟩ := hlook_inst hinj hU' ho
    obtain ⟨j, o0', rfl, h4, rfl⟩ := hlook_inst hinj hU' ho'
    exact hp'.sat.apart i o0 h2 j o0' h4 (fun h => hne (by rw [h])) b (((conv' i o0 h2).2.1 b).1 hb) (((conv' j o0' h4).2.2 b).1 hf)
  · obtain ⟨i, o0, rfl, h2, rfl⟩ := hlook_inst hinj hU' ho
    exact (hp'.own i o0 b h2 (((conv' i o0 h2).2.1 b).1 hb)).imp (fun h => h) (wr b)
  · obtain ⟨i, o0, rfl, h2, rfl⟩ := hlook_inst hinj hU' ho
    rcases hp'.foot i o0 b h2 (((conv' i o0 h2).2.2 b).1 hb) with k | k | ⟨id0, o1, k1, k2, k3⟩
    · exact .inl k
    · exact .inr (.inl (wr b k))
    · obtain ⟨o, k4, k5⟩ := hhp id0 o1 k1
      exact .inr (.inr ⟨g id0, o, k4, ((conv id0 o1 o k5).2.2 b).2 k2, fun h => k3 (((conv id0 o1 o k5).2.1 b).1 h)⟩)
/-- What a function does, told under names of its own: x is what the matcher m finds in the arguments, or in what is there besides. -/
def conX2 (P : Program) {X : Type} (f : FuncId) (m : List RV → Hp → Option (X × List Nat)) (nx0 : Nat) (args0 : X → List RV) (hp0 : X → Hp) (pre : X → Option Bool) (out0 : X → Out)
    (hm : ∀ args hp x r, m args hp = some (x, r) → r.length = nx0 ∧ ∀ nx, args.map RV.unk = ((args0 x).map (RV.inst (instId r nx0 nx))).map RV.unk ∧ (∀ i ∈ r, (∃ a ∈ args, i ∈ a.ids ∨ ∃ j ∈ a.ids, ∃ o, hlook hp j = some o ∧ i ∈ o.ids) ∨ ∃ o, hlook hp i = some o) ∧
      ∀ id o0, hlook (hp0 x) id = some o0 → ∃ o, hlook hp (instId r nx0 nx id) = some o ∧ o.unk = (o0.inst (instId r nx0 nx)).unk)
    (ok : ∀ x, Must (pre x) → namesB ⟨args0 x, hp0 x, nx0, []⟩ = true ∧ outB nx0 (out0 x) = true ∧ CallOk P f (args0 x) (hp0 x) nx0 (out0 x)) : Con P where
  f := f
  g := fun args hp nx => match m args hp with
    | some (x, r) => bif distinct r || ((hp0 x).all (fun p => p.2.isGrid) && (out0 x).up.all (fun p => Nat.ble nx0 p.1)) then some (pre x, (out0 x).inst (instId r nx0 nx) (nx + ((out0 x).nx - nx0))) else none
    | none => none
  ok := by
    intro args hp nx p out hn h hp'
    split at h
    · rename_i x r hx
      cases hb : (distinct r || ((hp0 x).all (fun p => p.2.isGrid) && (out0 x).up.all (fun p => Nat.ble nx0 p.1))) with
      | false => rw [hb] at h; cases h
      | true =>
        rw [hb] at h
        simp only [cond_true, Option.some.injEq, Prod.mk.injEq] at h
        obtain ⟨rfl, rfl⟩ := h
        obtain ⟨k1, k2⟩ := hm args hp x r hx
        obtain ⟨k3, k4, k5⟩ := k2 nx
        obtain ⟨g1, g2, g3⟩ := ok x hp'
        have hlt : ∀ i ∈ r, i < nx := fun i hi => by
          rcases k4 i hi with ⟨a, ha, h | ⟨j, hj, o, ho, h⟩⟩ | ⟨o, ho⟩
          · exact hn.fr a ha i h
          · exact (hn.hp j o ho).2 i h
          · exact (hn.hp i o ho).1
        rw [Bool.or_eq_true, Bool.and_eq_true] at hb
        rcases hb with hb | hb
        · exact g3.inst g1 g2 k1 (distinct_spec hb) hlt k3 k5
        · exact g3.instG g1 g2 k1 hb.1 hb.2 hlt k3 k5
    · cases h
/-- What a function does, told under names of its own: x is what the matcher m finds in the arguments. -/
def conX (P : Program) {X : Type} (f : FuncId) (m : List RV → Hp → Option (X × List Nat)) (nx0 : Nat) (args0 : X → List RV) (hp0 : X → Hp) (pre : X → Option Bool) (out0 : X → Out)
    (hm : ∀ args hp x r, m args hp = some (x, r) → r.length = nx0 ∧ ∀ nx, args.map RV.unk = ((args0 x).map (RV.inst (instId r nx0 nx))).map RV.unk ∧ (∀ i ∈ r, ∃ a ∈ args, i ∈ a.ids ∨ ∃ j ∈ a.ids, ∃ o, hlook hp j = some o ∧ i ∈ o.ids) ∧
      ∀ id o0, hlook (hp0 x) id = some o0 → ∃ o, hlook hp (instId r nx0 nx id) = some o ∧ o.unk = (o0.inst (instId r nx0 nx)).unk)
    (ok : ∀ x, Must (pre x) → namesB ⟨args0 x, hp0 x, nx0, []⟩ = true ∧ outB nx0 (out0 x) = true ∧ CallOk P f (args0 x) (hp0 x) nx0 (out0 x)) : Con P :=
  conX2 P f m nx0 args0 hp0 pre out0 (fun args hp x r h => ⟨(hm args hp x r h).1, fun nx => ⟨((hm args hp x r h).2 nx).1, fun i hi => .inl (((hm args hp x r h).2 nx).2.1 i hi), ((hm args hp x r h).2 nx).2.2⟩⟩) ok
end Go.Proofs.Ytonlllijdbjkaaa

/- A symbolic way through the code of a call: all ways at once: what a piece of code, a loop's round, a call answers, as a function. No condition. -/
set_option linter.unusedVariables false
namespace Go.Proofs.Ytonlllijdbjkaaa
open Go.RowKit

/-- What must be equal, way by way. -/
inductive Rows where
  | nil
  | cons (x : Item) (r : Rows)
  | two (a b : Rows)
structure FR (α : Type) where
  l : Rows
  r : Rows
  o : Option α
def algF (α : Type) : Alg (FR α) where
  fail := ⟨.nil, .nil, none⟩
  ob _ b r := ⟨r.l, r.r, bif b then r.o else none⟩
  eqI x y r := ⟨.cons x r.l, .cons y r.r, r.o⟩
  br _ b x y := ⟨.two x.l y.l, .two x.r y.r, bif b then x.o else y.o⟩
def FR.is {α : Type} (a : α) (r : FR α) : Prop := r.l = r.r ∧ r.o = some a
theorem sound_F {α : Type} (a : α) : Sound (algF α) (FR.is a) where
  fail := fun h => by cases h.2
  ob := fun {n b r} h => by
    obtain ⟨h1, h2⟩ := h
    cases b with
    | false => cases h2
    | true => exact ⟨rfl, h1, h2⟩
  eqI := fun {x y r} h => by
    obtain ⟨h1, h2⟩ := h
    simp only [algF, Rows.cons.injEq] at h1
    exact ⟨h1.1, h1.2, h2⟩
  br := fun {n b r r'} h => by
    obtain ⟨h1, h2⟩ := h
    simp only [algF, Rows.two.injEq] at h1
    refine ⟨fun hb => ⟨h1.1, ?_⟩, fun hb => ⟨h1.2, ?_⟩⟩
    · subst hb; exact h2
    · subst hb; exact h2
/-- Where a piece of code led, as the reader reads it: a value of V, laid back into the place S v. -/
def landF {α : Type} (n0 : Nat) (st : St) (ex0 : Ex) (rn : List (Nat × Option Nat)) (S : St) (ex : Ex) (s : St) (a : α) : FR α :=
  bif sameEx ex ex0 && Nat.ble st.nx S.nx && st.W.all (fun i => Nat.ble n0 i || S.W.any (Nat.beq i)) then evLand (algF α) n0 rn S s ⟨.nil, .nil, some a⟩ else (algF α).fail
theorem landF_ok {α : Type} {P : Program} {n0 : Nat} {c : Code} {st : St} {ex0 : Ex} {rn : List (Nat × Option Nat)} {S : St} {a b : α} {ex : Ex} {s : St} (h : CodeTo P n0 c st (At1 ex s)) (hg : FR.is b (landF n0 st ex0 rn S ex s a)) : a = b ∧ CodeTo P n0 c st (At1 ex0 S) := by
  unfold landF at hg
  cases hs : (sameEx ex ex0 && Nat.ble st.nx S.nx && st.W.all (fun i => Nat.ble n0 i || S.W.any (Nat.beq i))) with
  | false => rw [hs] at hg; exact absurd hg (sound_F b).fail
  | true =>
    rw [hs] at hg
    simp only [Bool.and_eq_true, List.all_eq_true, Bool.or_eq_true] at hs
    have h3 : a = b := by
      have := gsim_land (sound_F b) (K := ⟨.nil, .nil, some a⟩) (K' := a = b) (fun h => by cases h.2; rfl) hg
      unfold evLand at this
      cases hl : landB n0 rn S s with
      | false => rw [hl] at this; exact False.elim this
      | true =>
        rw [hl] at this
        simp only [cond_true] at this
        split at this
        · exact this.2
        · exact False.elim this
    refine ⟨h3, CodeTo.land h (Nat.le_of_ble_eq_true hs.1.2) (fun i hi hlt => ?_) (fun ex' s' hh => ?_)⟩
    · rcases hs.2 i hi with h' | h'
      · have := Nat.le_of_ble_eq_true h'; omega
      · obtain ⟨q, hq, hbq⟩ := List.any_eq_true.1 h'; rw [Nat.eq_of_beq_eq_true hbq]; exact hq
    · obtain ⟨rfl, rfl⟩ := hh
      have h4 := gsim_land (sound_F b) (K := ⟨.nil, .nil, some a⟩) (K' := True) (fun _ => trivial) hg
      unfold evLand at h4
      cases hl : landB n0 rn S s' with
      | false => rw [hl] at h4; exact False.elim h4
      | true =>
        rw [hl] at h4
        simp only [cond_true] at h4
        split at h4
        · rename_i p hp
          have h5 := h4.1
          simp only [Item.st.injEq] at h5
          exact ⟨⟨sameEx_spec hs.1.1, rfl⟩, rn, p, hl, hp, h5.1, h5.2⟩
        · exact False.elim h4
/-- The end of a round: on, or out. -/
def stepK {V R : Type} (n0 : Nat) (st : St) (S : V → St) (T : R → Ex × St) (rd : Ex → St → Option (V ⊕ R) × List (Nat × Option Nat)) (ex : Ex) (s : St) : FR (V ⊕ R) :=
  match rd ex s with
  | (some (.inl v), rn) => landF n0 st .normal rn (S v) ex s (.inl v)
  | (some (.inr r), rn) => bif sameEx (T r).1 .normal then (algF _).fail else landF n0 st (T r).1 rn (T r).2 ex s (.inr r)
  | (none, _) => (algF _).fail
def piece {R : Type} (A : Alg R) {P : Program} (C : Cfg P) (n : Nat) (f : FuncId) (n0 : Nat) (c : Code) (st : St) (K : Ex → St → R) : R := evCode A P C.facts (evCall A C n) (C.hooks f) (jnN P C.facts (evCallJ C n) (C.hooks f) n0 (C.am f) (Nat.ble 100 (C.join f)) (Nat.ble 200 (C.join f)) (C.join f % 100)) n0 (C.am f) c st K
/-- A round, all ways at once. -/
theorem eng_step {V R : Type} {P : Program} {C : Cfg P} (hf : FactsOk C.facts) {n : Nat} {f : FuncId} {n0 : Nat} {c : Code} {S : V → St} {T : R → Ex × St} (rd : Ex → St → Option (V ⊕ R) × List (Nat × Option Nat)) (hT : ∀ r, sameEx (T r).1 .normal = false) {v : V} {o : Option (V ⊕ R)}
    (h : (fun r : FR (V ⊕ R) => (r.l, r.o)) (piece (algF (V ⊕ R)) C n f n0 c (S v) (stepK n0 (S v) S T rd)) = (fun r : FR (V ⊕ R) => (r.r, o)) (piece (algF (V ⊕ R)) C n f n0 c (S v) (stepK n0 (S v) S T rd))) : StepOk P n0 c S T v o := by
  simp only [Prod.mk.injEq] at h
  obtain ⟨h1, h2⟩ := h
  cases o with
  | none => trivial
  | some a =>
    have main : Names (S v).fr (S v).hp (S v).nx → ∃ ex s, CodeTo P n0 c (S v) (At1 ex s) ∧ FR.is a (stepK n0 (S v) S T rd ex s) := by
      intro hn
      obtain ⟨ex, s, g1, _, g3⟩ := evCode_ok hf (evCall_ok hf n) (jnN_ok hf (evCall_ok hf n) (gsim_J n) _) c (S v) (fun ex s => FR.is a (stepK n0 (S v) S T rd ex s)) hn (gsim_code (sound_F a) (gsim_call (sound_F a) n) c (S v) _ _ (fun ex s hg => hg) ⟨h1, h2⟩)
      exact ⟨ex, s, g1, g3⟩
    cases a with
    | inl v' =>
      intro hn
      obtain ⟨ex, s, g1, g3⟩ := main hn
      unfold stepK at g3
      split at g3
      · rename_i v2 rn hrd
        obtain ⟨k1, k2⟩ := landF_ok g1 g3
        cases k1
        exact k2 hn
      · rename_i r2 rn hrd
        cases hb : sameEx (T r2).1 .normal with
        | true => rw [hb] at g3; exact absurd g3 (sound_F _).fail
        | false => rw [hb] at g3; cases (landF_ok g1 g3).1
      · exact absurd g3 (sound_F _).fail
    | inr r' =>
      have key : ∀ ex s, FR.is (.inr r') (stepK n0 (S v) S T rd ex s) → CodeTo P n0 c (S v) (At1 ex s) → CodeTo P n0 c (S v) (At1 (T r').1 (T r').2) := by
        intro ex s g3 g1
        unfold stepK at g3
        split at g3
        · cases (landF_ok g1 g3).1
        · rename_i r2 rn hrd
          cases hb : sameEx (T r2).1 .normal with
          | true => rw [hb] at g3; exact absurd g3 (sound_F _).fail
          | false =>
            rw [hb] at g3
            obtain ⟨k1, k2⟩ := landF_ok g1 g3
            cases k1
            exact k2
        · exact absurd g3 (sound_F _).fail
      refine ⟨fun h => (by have h2 := hT r'; rw [h] at h2; cases h2), fun hn => ?_⟩
      obtain ⟨ex, s, g1, g3⟩ := main hn
      exact key ex s g3 g1 hn
/-- A loop, by what its rounds answer. -/
def loopRes {V R : Type} [Inhabited R] (step : V → Option (V ⊕ R)) (n : Nat) (v : V) : R := (iter step n v).getD default
def LR.one' (id : Nat) (p : Ex × St) : LR := .one (exOut id p.1) p.2
/-- One way out. -/
def loopCon {V R : Type} [Inhabited R] (P : Program) (n0 : Nat) (c : Code) (rn : List (Nat × Option Nat)) (S : V → St) (T : R → Ex × St) (id : Nat) (step : V → Option (V ⊕ R)) (hs : ∀ v, StepOk P n0 c S T v (step v)) (n : Nat) (v : V) (p : Bool) (hp : p = (iter step n v).isSome) (rv : R) (hr : rv = loopRes step n v) : LoopCon P where
  n0 := n0
  c := .block id (.loop c)
  rn := rn
  S := S v
  pre := some p
  r := LR.one' id (T rv)
  ok := fun h => by
    subst hp hr
    have h' := h _ rfl
    obtain ⟨r, hr⟩ := Option.isSome_iff_exists.1 h'
    have := CodeTo.iter hs (id := id) hr
    simp only [loopRes, hr, Option.getD_some]
    exact this
/-- Two ways out. -/
def isL {A B : Type} : A ⊕ B → Bool
  | .inl _ => true
  | .inr _ => false
def getL {A B : Type} [Inhabited A] : A ⊕ B → A
  | .inl a => a
  | .inr _ => default
def getR {A B : Type} [Inhabited B] : A ⊕ B → B
  | .inl _ => default
  | .inr b => b
def loopCon2 {V A B : Type} [Inhabited A] [Inhabited B] (P : Program) (n0 : Nat) (c : Code) (rn : List (Nat × Option Nat)) (S : V → St) (T : A ⊕ B → Ex × St) (id : Nat) (step : V → Option (V ⊕ (A ⊕ B))) (hs : ∀ v, StepOk P n0 c S T v (step v)) (n : Nat) (v : V) (p : Bool) (hp : p = (iter step n v).isSome) (rv : A ⊕ B) (hr : rv = (iter step n v).getD (.inl default)) : LoopCon P where
  n0 := n0
  c := .block id (.loop c)
  rn := rn
  S := S v
  pre := some p
  r := .br (isL rv) (LR.one' id (T (.inl (getL rv)))) (LR.one' id (T (.inr (getR rv))))
  ok := fun h => by
    subst hp hr
    have h' := h _ rfl
    obtain ⟨r, hr⟩ := Option.isSome_iff_exists.1 h'
    have := CodeTo.iter hs (id := id) hr
    simp only [hr, Option.getD_some]
    cases r with
    | inl a => exact this.mono fun ex s h => (by simpa [LR.has, isL, getL, LR.one', At1] using h)
    | inr b => exact this.mono fun ex s h => (by simpa [LR.has, isL, getR, LR.one', At1] using h)
/-! ### A call, all ways at once -/
def outF {X : Type} (O : X → Out) (rd : Out → Option X) (out : Out) : FR X :=
  match rd out with
  | some x => (fun t : Two => ⟨.cons (.code .skip) (rowsL t.1), .cons (.code .skip) (rowsL t.2), some x⟩) (Out.full (O x) out)
  | none => (algF X).fail
where rowsL : List Item → Rows
  | [] => .nil
  | i :: l => .cons i (rowsL l)
theorem rowsL_inj : ∀ {l l' : List Item}, outF.rowsL l = outF.rowsL l' → l = l' := by
  intro l
  induction l with
  | nil => intro l' h; cases l' with
    | nil => rfl
    | cons x l' => cases h
  | cons x l ih => intro l' h; cases l' with
    | nil => cases h
    | cons y l' =>
      simp only [outF.rowsL, Rows.cons.injEq] at h
      rw [h.1, ih h.2]
theorem outF_ok {X : Type} {P : Program} {f : FuncId} {args : List RV} {hp : Hp} {nx : Nat} {O : X → Out} {rd : Out → Option X} {out : Out} {x : X} (h : CallOk P f args hp nx out) (hg : FR.is x (outF O rd out)) : CallOk P f args hp nx (O x) := by
  unfold outF at hg
  split at hg
  · rename_i x' hx
    obtain ⟨h1, h2⟩ := hg
    simp only [Rows.cons.injEq, true_and] at h1
    cases h2
    exact h.full (rowsL_inj h1)
  · exact absurd hg (sound_F x).fail
theorem eng_tree {X : Type} {P : Program} {C : Cfg P} (hf : FactsOk C.facts) {n : Nat} {f : FuncId} {args : List RV} {hp : Hp} {nx : Nat} (O : X → Out) (rd : Out → Option X) {o : Option X} (hnm : namesB ⟨args, hp, nx, []⟩ = true)
    (h : (fun r : FR X => (r.l, r.o)) (evBody (algF X) C (evCall (algF X) C n) (evCallJ C n) f args hp nx (outF O rd)) = (fun r : FR X => (r.r, o)) (evBody (algF X) C (evCall (algF X) C n) (evCallJ C n) f args hp nx (outF O rd))) {x : X} (ho : o = some x) : CallOk P f args hp nx (O x) := by
  simp only [Prod.mk.injEq] at h
  subst ho
  obtain ⟨out, h1, h2⟩ := evBody_ok hf (evCall_ok hf n) (gsim_J n) (namesB_spec hnm) (gsim_body (sound_F x) (gsim_call (sound_F x) n) (fun out hg => hg) h)
  exact outF_ok h1 h2
/-! ### Reading a place -/
abbrev rI : CV → Int
  | .val _ (.int _ n) => n
  | _ => 0
abbrev rB : CV → Bool
  | .val _ (.bool b) => b
  | _ => false
abbrev rT : CV → List (List Ct)
  | .tab _ _ l => l
  | _ => []
abbrev rS : CV → ByteArray
  | .val _ (.string s) => s
  | _ => .empty
abbrev svC (s : SV) (j : Nat) : CV := match s with | .one c => c | .agg cs => cs.getD j (.val true undef)
abbrev frC (s : St) (i j : Nat) : CV := match s.fr.getD i RV.und with | .sv s => svC s j | _ => .val true undef
/-- The slice in which a place lies. -/
def hpE (s : St) (q : Nat) : CV := match hlook s.hp q with
  | some (.elem id _ _) => .ext id
  | some (.part id _ _ _) => .ext id
  | _ => .val true undef
abbrev hpC (s : St) (id j : Nat) : CV := match hlook s.hp id with | some (.cells cs _) => cs.getD j (.val true undef) | _ => .val true undef
def isExt : CV → Bool
  | .ext _ => true
  | _ => false
abbrev hpL' (hp : Hp) (id : Nat) : List (List Ct) := match hlook hp id with | some (.grid _ l) => l | some (.row _ _ l) => l | _ => []
abbrev cId : CV → Nat
  | .ext i => i
  | .ptr i _ => i
  | .sl i _ _ _ => i
  | .eptr i _ => i
  | _ => 0
abbrev rL (s : St) (c : CV) : List (List Ct) := match c with | .ext i => hpL' s.hp i | _ => []
def rnOf (id : Nat) (c : CV) : Nat × Option Nat := match c with | .val _ _ => (id, none) | c => (id, some (cId c))
abbrev rvC (r : RV) (i j : Nat) : CV := match r with | .sv s => svC s j | .tup l => (match l[i]? with | some s => svC s j | none => .val true undef) | .dead => .val true undef
/-! ### A row that is only looked at may be one's own -/
def frz1 : HO → HO
  | .row sh _ l => .grid sh l
  | o => o
def frz (hp : Hp) : Hp := hp.map fun p => (p.1, frz1 p.2)
theorem hlook_frz {hp : Hp} {id : Nat} : hlook (frz hp) id = (hlook hp id).map frz1 := by
  induction hp with
  | nil => rfl
  | cons p l ih =>
    obtain ⟨i, o⟩ := p
    simp only [frz, List.map_cons, hlook] at ih ⊢
    cases Nat.beq i id with
    | true => rfl
    | false => exact ih
def isRow : Option HO → Bool
  | some (.row _ _ _) => true
  | _ => false
def Env.frz (e : Env) (h : Nat → Option HO) : Env := ⟨e.ρ, e.σ, fun id b => e.φ id b ∨ (isRow (h id) = true ∧ (e.slv id).ownBlock = some b)⟩
theorem CV.den_rs {e e' : Env} (c : CV) (h1 : e'.ρ = e.ρ) (h2 : e'.σ = e.σ) : c.den e' = c.den e := by
  have hb : ∀ p, bmDen e' p = bmDen e p := fun p => by cases p <;> simp [bmDen, Env.slv, h1, h2]
  cases c <;> simp [CV.den, Env.ptr, Env.blk, Env.off, Env.slv, h1, h2, hb]
theorem CallOk.freeze {P : Program} {f : FuncId} {args : List RV} {hp : Hp} {nx : Nat} {out : Out} (h : CallOk P f args (frz hp) nx out) (hup : out.up = []) (hW : out.W = []) (hids : out.v.ids = []) : CallOk P f args hp nx out := by
  intro e w hs
  have hden : ∀ c : CV, c.den (e.frz (hlook hp)) = c.den e := fun c => c.den_rs rfl rfl
  have hargs : args.map (RV.den (e.frz (hlook hp))) = args.map (RV.den e) := by
    refine List.map_congr_left fun r _ => ?_
    have hsv : ∀ s : SV, s.den (e.frz (hlook hp)) = s.den e := fun s => by
      cases s with
      | one c => exact hden c
      | agg cs => simp only [SV.den]; rw [List.map_congr_left fun c _ => hden c]
    cases r with
    | sv s => exact hsv s
    | tup l => simp only [RV.den]; rw [List.map_congr_left fun s _ => hsv s]
    | dead => rfl
  have hfoot : ∀ id o, hlook hp id = some o → ∀ b, (frz1 o).foot (e.frz (hlook hp)) id b → o.foot e id b := by
    intro id o ho b hb
    cases o with
    | cells cs t => exact hb
    | grid sh l =>
      have hb' : e.φ id b ∨ (isRow (hlook hp id) = true ∧ (e.slv id).ownBlock = some b) := hb
      rw [ho] at hb'
      rcases hb' with hb' | hb'
      · exact hb'
      · cases hb'.1
    | row sh t l =>
      have hb' : e.φ id b ∨ (isRow (hlook hp id) = true ∧ (e.slv id).ownBlock = some b) := hb
      rcases hb' with hb' | hb'
      · exact .inr hb'
      · exact .inl hb'.2
    | elem _ _ _ => exact hb
    | gone => exact hb
    | tie _ _ _ => exact hb
    | part _ _ _ _ => exact hb
    | lent _ _ => exact hb
  have hsat : Sat (e.frz (hlook hp)) (hlook (frz hp)) w := by
    refine ⟨fun id o ho => ?_, fun id o ho id' o' ho' hne b hb hf => ?_⟩
    · rw [hlook_frz] at ho
      obtain ⟨o1, ho1, rfl⟩ := Option.map_eq_some_iff.1 ho
      have hh := hs.holds id o1 ho1
      cases o1 with
      | cells cs t =>
        simp only [frz1, HO.holds] at hh ⊢
        rw [List.map_congr_left fun c _ => hden c]
        exact hh
      | grid sh l =>
        have hφ : (e.frz (hlook hp)).φ id = e.φ id := by
          funext b
          simp [Env.frz, ho1, isRow]
        simp only [frz1, HO.holds, hφ] at hh ⊢
        exact hh
      | row sh t l =>
        obtain ⟨d, hr⟩ := HO.rowsAt (p := (sh, l)) hh rfl
        have hsub : ∀ b, (HO.row sh t l).foot e id b → (e.frz (hlook hp)).φ id b := by
          intro b hb
          rcases hb with hb | hb
          · exact .inr ⟨by rw [ho1]; rfl, hb⟩
          · exact .inl hb
        refine ⟨⟨d, hr.mono (fun b hb => ⟨hsub b hb, rfl⟩) (fun s c u hc => hc.mono fun b hb => ⟨hsub b (.inr hb), rfl⟩)⟩, fun b hb => ?_⟩
        exact HO.foot_lt hh (hfoot id _ ho1 b hb)
      | elem id' i w' => exact hh
      | gone => trivial
      | tie _ _ _ => exact hh
      | part _ _ _ _ => exact hh
      | lent cs t =>
        simp only [frz1, HO.holds] at hh ⊢
        rw [List.map_congr_left fun c _ => hden c]
        exact hh
    · rw [hlook_frz] at ho ho'
      obtain ⟨o1, ho1, rfl⟩ := Option.map_eq_some_iff.1 ho
      obtain ⟨o2, ho2, rfl⟩ := Option.map_eq_some_iff.1 ho'
      have hown : o1.owns e id b := by
        cases o1 with
        | cells cs t => exact hb
        | _ => exact False.elim hb
      exact hs.apart id o1 ho1 id' o2 ho2 hne b hown (hfoot id' o2 ho2 b hf)
  have hk := h (e.frz (hlook hp)) w hsat
  rw [hargs] at hk
  refine hk.mono fun en w' ⟨e', hen, hp'⟩ => ⟨e, ?_, ?_⟩
  · rw [hen, RV.den_same out.v (fun id hid => by rw [hids] at hid; cases hid) (e := e) (e' := e')]
  · obtain ⟨v, up, nx', W⟩ := out
    cases hup
    cases hW
    exact ⟨fun _ _ => .refl _ _, hp'.os, hp'.tape, hp'.output, hp'.size, fun k hk _ => hp'.fr k hk (fun id hid => by cases hid), ⟨fun _ _ h => by simp [hlook] at h, fun _ _ h => by simp [hlook] at h⟩, fun _ _ _ h => by simp [hlook] at h, fun _ _ _ h => by simp [hlook] at h⟩
def Con.freeze {P : Program} (c : Con P) : Con P where
  f := c.f
  g := fun args hp nx => match c.g args (frz hp) nx with
    | some (p, out) => bif out.up.isEmpty && out.W.isEmpty && out.v.ids.isEmpty then some (p, out) else none
    | none => none
  ok := by
    intro args hp nx p out hn h hm
    split at h
    · rename_i p' out' ho
      cases hb : (out'.up.isEmpty && out'.W.isEmpty && out'.v.ids.isEmpty) with
      | false => rw [hb] at h; cases h
      | true =>
        rw [hb] at h
        simp only [cond_true, Option.some.injEq, Prod.mk.injEq] at h
        obtain ⟨rfl, rfl⟩ := h
        simp only [Bool.and_eq_true, List.isEmpty_iff] at hb
        refine (c.ok args (frz hp) nx _ _ ⟨hn.fr, fun id o ho => ?_⟩ ho hm).freeze hb.1.1 hb.1.2 hb.2
        rw [hlook_frz] at ho
        obtain ⟨o1, ho1, rfl⟩ := Option.map_eq_some_iff.1 ho
        refine ⟨(hn.hp id o1 ho1).1, fun i hi => (hn.hp id o1 ho1).2 i ?_⟩
        cases o1 <;> first | exact hi | exact absurd hi (by simp [frz1, HO.ids])
    · cases h
/-! ### A loop's text -/
def findLoop (id : Nat) : Code → Option Code
  | .block i c => bif Nat.beq i id then (match c with | .loop c => some c | _ => none) else findLoop id c
  | .seq x y => (match findLoop id x with | some c => some c | none => findLoop id y)
  | .cond _ x y => (match findLoop id x with | some c => some c | none => findLoop id y)
  | .loop c => findLoop id c
  | .scope c => findLoop id c
  | _ => none
def loopC (P : Program) (f : FuncId) (id : Nat) : Code := match P.funcs[f]? with | some fn => (match fn.body with | some c => (findLoop id c).getD .skip | none => .skip) | none => .skip
/-! ### Contracts under whatever names -/
def gridAt (hp : Hp) (id : Nat) (sh : List Sh) : Option (List (List Ct)) := match hlook hp id with
  | some (.grid sh' l) => bif shEqL sh' sh then some l else none
  | _ => none
theorem gridAt_spec {hp : Hp} {id : Nat} {sh : List Sh} {l : List (List Ct)} (h : gridAt hp id sh = some l) : hlook hp id = some (.grid sh l) := by
  unfold gridAt at h
  split at h
  · rename_i sh' l' ho
    cases hb : shEqL sh' sh with
    | false => rw [hb] at h; cases h
    | true =>
      rw [hb] at h
      cases h
      rw [ho, shEqL_spec hb]
  · cases h
theorem opt_get {α : Type} [Inhabited α] {o : Option α} (h : o.isSome = true) : o = some (o.getD default) := by cases o with | none => cases h | some v => rfl
end Go.Proofs.Ytonlllijdbjkaaa
