/- A symbolic way through the code of a call: all ways at once: what a piece of code, a loop's round, a call answers, as a function. No condition. -/
import Derived.Test.YthgneojhhocflaaEng13
set_option linter.unusedVariables false
namespace Go.Proofs.Ythgneojhhocflaa
open Go.RowKit

/-- What must be equal, way by way. -/
inductive Rows where
  | nil
  | cons (x : Item) (r : Rows)
  | two (a b : Rows)
structure FR (α : Type) where
  l : Rows
  r : Rows
  o : Option α
def algF (α : Type) : Alg (FR α) where
  fail := ⟨.nil, .nil, none⟩
  ob _ b r := ⟨r.l, r.r, bif b then r.o else none⟩
  eqI x y r := ⟨.cons x r.l, .cons y r.r, r.o⟩
  br _ b x y := ⟨.two x.l y.l, .two x.r y.r, bif b then x.o else y.o⟩
def FR.is {α : Type} (a : α) (r : FR α) : Prop := r.l = r.r ∧ r.o = some a
theorem sound_F {α : Type} (a : α) : Sound (algF α) (FR.is a) where
  fail := fun h => by cases h.2
  ob := fun {n b r} h => by
    obtain ⟨h1, h2⟩ := h
    cases b with
    | false => cases h2
    | true => exact ⟨rfl, h1, h2⟩
  eqI := fun {x y r} h => by
    obtain ⟨h1, h2⟩ := h
    simp only [algF, Rows.cons.injEq] at h1
    exact ⟨h1.1, h1.2, h2⟩
  br := fun {n b r r'} h => by
    obtain ⟨h1, h2⟩ := h
    simp only [algF, Rows.two.injEq] at h1
    refine ⟨fun hb => ⟨h1.1, ?_⟩, fun hb => ⟨h1.2, ?_⟩⟩
    · subst hb; exact h2
    · subst hb; exact h2
/-- Where a piece of code led, as the reader reads it: a value of V, laid back into the place S v. -/
def landF {α : Type} (n0 : Nat) (st : St) (ex0 : Ex) (rn : List (Nat × Option Nat)) (S : St) (ex : Ex) (s : St) (a : α) : FR α :=
  bif sameEx ex ex0 && Nat.ble st.nx S.nx && st.W.all (fun i => Nat.ble n0 i || S.W.any (Nat.beq i)) then evLand (algF α) n0 rn S s ⟨.nil, .nil, some a⟩ else (algF α).fail
theorem landF_ok {α : Type} {P : Program} {n0 : Nat} {c : Code} {st : St} {ex0 : Ex} {rn : List (Nat × Option Nat)} {S : St} {a b : α} {ex : Ex} {s : St} (h : CodeTo P n0 c st (At1 ex s)) (hg : FR.is b (landF n0 st ex0 rn S ex s a)) : a = b ∧ CodeTo P n0 c st (At1 ex0 S) := by
  unfold landF at hg
  cases hs : (sameEx ex ex0 && Nat.ble st.nx S.nx && st.W.all (fun i => Nat.ble n0 i || S.W.any (Nat.beq i))) with
  | false => rw [hs] at hg; exact absurd hg (sound_F b).fail
  | true =>
    rw [hs] at hg
    simp only [Bool.and_eq_true, List.all_eq_true, Bool.or_eq_true] at hs
    have h3 : a = b := by
      have := gsim_land (sound_F b) (K := ⟨.nil, .nil, some a⟩) (K' := a = b) (fun h => by cases h.2; rfl) hg
      unfold evLand at this
      cases hl : landB n0 rn S s with
      | false => rw [hl] at this; exact False.elim this
      | true =>
        rw [hl] at this
        simp only [cond_true] at this
        split at this
        · exact this.2
        · exact False.elim this
    refine ⟨h3, CodeTo.land h (Nat.le_of_ble_eq_true hs.1.2) (fun i hi hlt => ?_) (fun ex' s' hh => ?_)⟩
    · rcases hs.2 i hi with h' | h'
      · have := Nat.le_of_ble_eq_true h'; omega
      · obtain ⟨q, hq, hbq⟩ := List.any_eq_true.1 h'; rw [Nat.eq_of_beq_eq_true hbq]; exact hq
    · obtain ⟨rfl, rfl⟩ := hh
      have h4 := gsim_land (sound_F b) (K := ⟨.nil, .nil, some a⟩) (K' := True) (fun _ => trivial) hg
      unfold evLand at h4
      cases hl : landB n0 rn S s' with
      | false => rw [hl] at h4; exact False.elim h4
      | true =>
        rw [hl] at h4
        simp only [cond_true] at h4
        split at h4
        · rename_i p hp
          have h5 := h4.1
          simp only [Item.st.injEq] at h5
          exact ⟨⟨sameEx_spec hs.1.1, rfl⟩, rn, p, hl, hp, h5.1, h5.2⟩
        · exact False.elim h4
/-- The end of a round: on, or out. -/
def stepK {V R : Type} (n0 : Nat) (st : St) (S : V → St) (T : R → Ex × St) (rd : Ex → St → Option (V ⊕ R) × List (Nat × Option Nat)) (ex : Ex) (s : St) : FR (V ⊕ R) :=
  match rd ex s with
  | (some (.inl v), rn) => landF n0 st .normal rn (S v) ex s (.inl v)
  | (some (.inr r), rn) => bif sameEx (T r).1 .normal then (algF _).fail else landF n0 st (T r).1 rn (T r).2 ex s (.inr r)
  | (none, _) => (algF _).fail
def piece {R : Type} (A : Alg R) {P : Program} (C : Cfg P) (n : Nat) (f : FuncId) (n0 : Nat) (c : Code) (st : St) (K : Ex → St → R) : R := evCode A P C.facts (evCall A C n) (C.hooks f) (jnN P C.facts (evCallJ C n) (C.hooks f) n0 (C.am f) (C.join f)) n0 (C.am f) c st K
/-- A round, all ways at once. -/
theorem eng_step {V R : Type} {P : Program} {C : Cfg P} (hf : FactsOk C.facts) {n : Nat} {f : FuncId} {n0 : Nat} {c : Code} {S : V → St} {T : R → Ex × St} (rd : Ex → St → Option (V ⊕ R) × List (Nat × Option Nat)) (hT : ∀ r, sameEx (T r).1 .normal = false) {v : V} {o : Option (V ⊕ R)}
    (h : (fun r : FR (V ⊕ R) => (r.l, r.o)) (piece (algF (V ⊕ R)) C n f n0 c (S v) (stepK n0 (S v) S T rd)) = (fun r : FR (V ⊕ R) => (r.r, o)) (piece (algF (V ⊕ R)) C n f n0 c (S v) (stepK n0 (S v) S T rd))) : StepOk P n0 c S T v o := by
  simp only [Prod.mk.injEq] at h
  obtain ⟨h1, h2⟩ := h
  cases o with
  | none => trivial
  | some a =>
    have main : Names (S v).fr (S v).hp (S v).nx → ∃ ex s, CodeTo P n0 c (S v) (At1 ex s) ∧ FR.is a (stepK n0 (S v) S T rd ex s) := by
      intro hn
      obtain ⟨ex, s, g1, _, g3⟩ := evCode_ok hf (evCall_ok hf n) (jnN_ok hf (evCall_ok hf n) (gsim_J n) _) c (S v) (fun ex s => FR.is a (stepK n0 (S v) S T rd ex s)) hn (gsim_code (sound_F a) (gsim_call (sound_F a) n) c (S v) _ _ (fun ex s hg => hg) ⟨h1, h2⟩)
      exact ⟨ex, s, g1, g3⟩
    cases a with
    | inl v' =>
      intro hn
      obtain ⟨ex, s, g1, g3⟩ := main hn
      unfold stepK at g3
      split at g3
      · rename_i v2 rn hrd
        obtain ⟨k1, k2⟩ := landF_ok g1 g3
        cases k1
        exact k2 hn
      · rename_i r2 rn hrd
        cases hb : sameEx (T r2).1 .normal with
        | true => rw [hb] at g3; exact absurd g3 (sound_F _).fail
        | false => rw [hb] at g3; cases (landF_ok g1 g3).1
      · exact absurd g3 (sound_F _).fail
    | inr r' =>
      have key : ∀ ex s, FR.is (.inr r') (stepK n0 (S v) S T rd ex s) → CodeTo P n0 c (S v) (At1 ex s) → CodeTo P n0 c (S v) (At1 (T r').1 (T r').2) := by
        intro ex s g3 g1
        unfold stepK at g3
        split at g3
        · cases (landF_ok g1 g3).1
        · rename_i r2 rn hrd
          cases hb : sameEx (T r2).1 .normal with
          | true => rw [hb] at g3; exact absurd g3 (sound_F _).fail
          | false =>
            rw [hb] at g3
            obtain ⟨k1, k2⟩ := landF_ok g1 g3
            cases k1
            exact k2
        · exact absurd g3 (sound_F _).fail
      refine ⟨fun h => (by have h2 := hT r'; rw [h] at h2; cases h2), fun hn => ?_⟩
      obtain ⟨ex, s, g1, g3⟩ := main hn
      exact key ex s g3 g1 hn
/-- A loop, by what its rounds answer. -/
def loopRes {V R : Type} [Inhabited R] (step : V → Option (V ⊕ R)) (n : Nat) (v : V) : R := (iter step n v).getD default
def LR.one' (id : Nat) (p : Ex × St) : LR := .one (exOut id p.1) p.2
/-- One way out. -/
def loopCon {V R : Type} [Inhabited R] (P : Program) (n0 : Nat) (c : Code) (rn : List (Nat × Option Nat)) (S : V → St) (T : R → Ex × St) (id : Nat) (step : V → Option (V ⊕ R)) (hs : ∀ v, StepOk P n0 c S T v (step v)) (n : Nat) (v : V) (p : Bool) (hp : p = (iter step n v).isSome) (rv : R) (hr : rv = loopRes step n v) : LoopCon P where
  n0 := n0
  c := .block id (.loop c)
  rn := rn
  S := S v
  pre := some p
  r := LR.one' id (T rv)
  ok := fun h => by
    subst hp hr
    have h' := h _ rfl
    obtain ⟨r, hr⟩ := Option.isSome_iff_exists.1 h'
    have := CodeTo.iter hs (id := id) hr
    simp only [loopRes, hr, Option.getD_some]
    exact this
/-- Two ways out. -/
def isL {A B : Type} : A ⊕ B → Bool
  | .inl _ => true
  | .inr _ => false
def getL {A B : Type} [Inhabited A] : A ⊕ B → A
  | .inl a => a
  | .inr _ => default
def getR {A B : Type} [Inhabited B] : A ⊕ B → B
  | .inl _ => default
  | .inr b => b
def loopCon2 {V A B : Type} [Inhabited A] [Inhabited B] (P : Program) (n0 : Nat) (c : Code) (rn : List (Nat × Option Nat)) (S : V → St) (T : A ⊕ B → Ex × St) (id : Nat) (step : V → Option (V ⊕ (A ⊕ B))) (hs : ∀ v, StepOk P n0 c S T v (step v)) (n : Nat) (v : V) (p : Bool) (hp : p = (iter step n v).isSome) (rv : A ⊕ B) (hr : rv = (iter step n v).getD (.inl default)) : LoopCon P where
  n0 := n0
  c := .block id (.loop c)
  rn := rn
  S := S v
  pre := some p
  r := .br (isL rv) (LR.one' id (T (.inl (getL rv)))) (LR.one' id (T (.inr (getR rv))))
  ok := fun h => by
    subst hp hr
    have h' := h _ rfl
    obtain ⟨r, hr⟩ := Option.isSome_iff_exists.1 h'
    have := CodeTo.iter hs (id := id) hr
    simp only [hr, Option.getD_some]
    cases r with
    | inl a => exact this.mono fun ex s h => (by simpa [LR.has, isL, getL, LR.one', At1] using h)
    | inr b => exact this.mono fun ex s h => (by simpa [LR.has, isL, getR, LR.one', At1] using h)
/-! ### A call, all ways at once -/
def outF {X : Type} (O : X → Out) (rd : Out → Option X) (out : Out) : FR X :=
  match rd out with
  | some x => (fun t : Two => ⟨.cons (.code .skip) (rowsL t.1), .cons (.code .skip) (rowsL t.2), some x⟩) (Out.full (O x) out)
  | none => (algF X).fail
where rowsL : List Item → Rows
  | [] => .nil
  | i :: l => .cons i (rowsL l)
theorem rowsL_inj : ∀ {l l' : List Item}, outF.rowsL l = outF.rowsL l' → l = l' := by
  intro l
  induction l with
  | nil => intro l' h; cases l' with
    | nil => rfl
    | cons x l' => cases h
  | cons x l ih => intro l' h; cases l' with
    | nil => cases h
    | cons y l' =>
      simp only [outF.rowsL, Rows.cons.injEq] at h
      rw [h.1, ih h.2]
theorem outF_ok {X : Type} {P : Program} {f : FuncId} {args : List RV} {hp : Hp} {nx : Nat} {O : X → Out} {rd : Out → Option X} {out : Out} {x : X} (h : CallOk P f args hp nx out) (hg : FR.is x (outF O rd out)) : CallOk P f args hp nx (O x) := by
  unfold outF at hg
  split at hg
  · rename_i x' hx
    obtain ⟨h1, h2⟩ := hg
    simp only [Rows.cons.injEq, true_and] at h1
    cases h2
    exact h.full (rowsL_inj h1)
  · exact absurd hg (sound_F x).fail
theorem eng_tree {X : Type} {P : Program} {C : Cfg P} (hf : FactsOk C.facts) {n : Nat} {f : FuncId} {args : List RV} {hp : Hp} {nx : Nat} (O : X → Out) (rd : Out → Option X) {o : Option X} (hnm : namesB ⟨args, hp, nx, []⟩ = true)
    (h : (fun r : FR X => (r.l, r.o)) (evBody (algF X) C (evCall (algF X) C n) (evCallJ C n) f args hp nx (outF O rd)) = (fun r : FR X => (r.r, o)) (evBody (algF X) C (evCall (algF X) C n) (evCallJ C n) f args hp nx (outF O rd))) {x : X} (ho : o = some x) : CallOk P f args hp nx (O x) := by
  simp only [Prod.mk.injEq] at h
  subst ho
  obtain ⟨out, h1, h2⟩ := evBody_ok hf (evCall_ok hf n) (gsim_J n) (namesB_spec hnm) (gsim_body (sound_F x) (gsim_call (sound_F x) n) (fun out hg => hg) h)
  exact outF_ok h1 h2
/-! ### Reading a place -/
def rI : CV → Int
  | .val _ (.int _ n) => n
  | _ => 0
def rB : CV → Bool
  | .val _ (.bool b) => b
  | _ => false
def rS : CV → ByteArray
  | .val _ (.string s) => s
  | _ => .empty
def svC (s : SV) (j : Nat) : CV := match s with | .one c => c | .agg cs => cs.getD j (.val true undef)
def frC (s : St) (i j : Nat) : CV := match s.fr.getD i RV.und with | .sv s => svC s j | _ => .val true undef
def hpC (s : St) (id j : Nat) : CV := match hlook s.hp id with | some (.cells cs _) => cs.getD j (.val true undef) | _ => .val true undef
def isExt : CV → Bool
  | .ext _ => true
  | _ => false
def hpL' (hp : Hp) (id : Nat) : List (List Ct) := match hlook hp id with | some (.grid _ l) => l | some (.row _ _ l) => l | _ => []
def cId : CV → Nat
  | .ext i => i
  | .ptr i _ => i
  | .sl i _ _ _ => i
  | .eptr i _ => i
  | _ => 0
def rL (s : St) (c : CV) : List (List Ct) := match c with | .ext i => hpL' s.hp i | _ => []
def rnOf (id : Nat) (c : CV) : Nat × Option Nat := match c with | .val _ _ => (id, none) | c => (id, some (cId c))
def rvC (r : RV) (i j : Nat) : CV := match r with | .sv s => svC s j | .tup l => (match l[i]? with | some s => svC s j | none => .val true undef) | .dead => .val true undef
/-! ### A row that is only looked at may be one's own -/
def frz1 : HO → HO
  | .row sh _ l => .grid sh l
  | o => o
def frz (hp : Hp) : Hp := hp.map fun p => (p.1, frz1 p.2)
theorem hlook_frz {hp : Hp} {id : Nat} : hlook (frz hp) id = (hlook hp id).map frz1 := by
  induction hp with
  | nil => rfl
  | cons p l ih =>
    obtain ⟨i, o⟩ := p
    simp only [frz, List.map_cons, hlook] at ih ⊢
    cases Nat.beq i id with
    | true => rfl
    | false => exact ih
def isRow : Option HO → Bool
  | some (.row _ _ _) => true
  | _ => false
def Env.frz (e : Env) (h : Nat → Option HO) : Env := ⟨e.ρ, e.σ, fun id b => e.φ id b ∨ (isRow (h id) = true ∧ (e.slv id).ownBlock = some b)⟩
theorem CV.den_rs {e e' : Env} (c : CV) (h1 : e'.ρ = e.ρ) (h2 : e'.σ = e.σ) : c.den e' = c.den e := by
  have hb : ∀ p, bmDen e' p = bmDen e p := fun p => by cases p <;> simp [bmDen, Env.slv, h1, h2]
  cases c <;> simp [CV.den, Env.ptr, Env.blk, Env.off, Env.slv, h1, h2, hb]
theorem CallOk.freeze {P : Program} {f : FuncId} {args : List RV} {hp : Hp} {nx : Nat} {out : Out} (h : CallOk P f args (frz hp) nx out) (hup : out.up = []) (hW : out.W = []) (hids : out.v.ids = []) : CallOk P f args hp nx out := by
  intro e w hs
  have hden : ∀ c : CV, c.den (e.frz (hlook hp)) = c.den e := fun c => c.den_rs rfl rfl
  have hargs : args.map (RV.den (e.frz (hlook hp))) = args.map (RV.den e) := by
    refine List.map_congr_left fun r _ => ?_
    have hsv : ∀ s : SV, s.den (e.frz (hlook hp)) = s.den e := fun s => by
      cases s with
      | one c => exact hden c
      | agg cs => simp only [SV.den]; rw [List.map_congr_left fun c _ => hden c]
    cases r with
    | sv s => exact hsv s
    | tup l => simp only [RV.den]; rw [List.map_congr_left fun s _ => hsv s]
    | dead => rfl
  have hfoot : ∀ id o, hlook hp id = some o → ∀ b, (frz1 o).foot (e.frz (hlook hp)) id b → o.foot e id b := by
    intro id o ho b hb
    cases o with
    | cells cs t => exact hb
    | grid sh l =>
      have hb' : e.φ id b ∨ (isRow (hlook hp id) = true ∧ (e.slv id).ownBlock = some b) := hb
      rw [ho] at hb'
      rcases hb' with hb' | hb'
      · exact hb'
      · cases hb'.1
    | row sh t l =>
      have hb' : e.φ id b ∨ (isRow (hlook hp id) = true ∧ (e.slv id).ownBlock = some b) := hb
      rcases hb' with hb' | hb'
      · exact .inr hb'
      · exact .inl hb'.2
    | elem _ _ _ => exact hb
    | gone => exact hb
  have hsat : Sat (e.frz (hlook hp)) (hlook (frz hp)) w := by
    refine ⟨fun id o ho => ?_, fun id o ho id' o' ho' hne b hb hf => ?_⟩
    · rw [hlook_frz] at ho
      obtain ⟨o1, ho1, rfl⟩ := Option.map_eq_some_iff.1 ho
      have hh := hs.holds id o1 ho1
      cases o1 with
      | cells cs t =>
        simp only [frz1, HO.holds] at hh ⊢
        rw [List.map_congr_left fun c _ => hden c]
        exact hh
      | grid sh l =>
        have hφ : (e.frz (hlook hp)).φ id = e.φ id := by
          funext b
          simp [Env.frz, ho1, isRow]
        simp only [frz1, HO.holds, hφ] at hh ⊢
        exact hh
      | row sh t l =>
        obtain ⟨d, hr⟩ := HO.rowsAt (p := (sh, l)) hh rfl
        have hsub : ∀ b, (HO.row sh t l).foot e id b → (e.frz (hlook hp)).φ id b := by
          intro b hb
          rcases hb with hb | hb
          · exact .inr ⟨by rw [ho1]; rfl, hb⟩
          · exact .inl hb
        refine ⟨⟨d, hr.mono (fun b hb => ⟨hsub b hb, rfl⟩) (fun s c u hc => hc.mono fun b hb => ⟨hsub b (.inr hb), rfl⟩)⟩, fun b hb => ?_⟩
        exact HO.foot_lt hh (hfoot id _ ho1 b hb)
      | elem id' i w' => exact hh
      | gone => trivial
    · rw [hlook_frz] at ho ho'
      obtain ⟨o1, ho1, rfl⟩ := Option.map_eq_some_iff.1 ho
      obtain ⟨o2, ho2, rfl⟩ := Option.map_eq_some_iff.1 ho'
      have hown : o1.owns e id b := by
        cases o1 with
        | cells cs t => exact hb
        | _ => exact False.elim hb
      exact hs.apart id o1 ho1 id' o2 ho2 hne b hown (hfoot id' o2 ho2 b hf)
  have hk := h (e.frz (hlook hp)) w hsat
  rw [hargs] at hk
  refine hk.mono fun en w' ⟨e', hen, hp'⟩ => ⟨e, ?_, ?_⟩
  · rw [hen, RV.den_same out.v (fun id hid => by rw [hids] at hid; cases hid) (e := e) (e' := e')]
  · obtain ⟨v, up, nx', W⟩ := out
    cases hup
    cases hW
    exact ⟨fun _ _ => .refl _ _, hp'.os, hp'.tape, hp'.output, hp'.size, fun k hk _ => hp'.fr k hk (fun id hid => by cases hid), ⟨fun _ _ h => by simp [hlook] at h, fun _ _ h => by simp [hlook] at h⟩, fun _ _ _ h => by simp [hlook] at h, fun _ _ _ h => by simp [hlook] at h⟩
def Con.freeze {P : Program} (c : Con P) : Con P where
  f := c.f
  g := fun args hp nx => match c.g args (frz hp) nx with
    | some (p, out) => bif out.up.isEmpty && out.W.isEmpty && out.v.ids.isEmpty then some (p, out) else none
    | none => none
  ok := by
    intro args hp nx p out hn h hm
    split at h
    · rename_i p' out' ho
      cases hb : (out'.up.isEmpty && out'.W.isEmpty && out'.v.ids.isEmpty) with
      | false => rw [hb] at h; cases h
      | true =>
        rw [hb] at h
        simp only [cond_true, Option.some.injEq, Prod.mk.injEq] at h
        obtain ⟨rfl, rfl⟩ := h
        simp only [Bool.and_eq_true, List.isEmpty_iff] at hb
        refine (c.ok args (frz hp) nx _ _ ⟨hn.fr, fun id o ho => ?_⟩ ho hm).freeze hb.1.1 hb.1.2 hb.2
        rw [hlook_frz] at ho
        obtain ⟨o1, ho1, rfl⟩ := Option.map_eq_some_iff.1 ho
        refine ⟨(hn.hp id o1 ho1).1, fun i hi => (hn.hp id o1 ho1).2 i ?_⟩
        cases o1 <;> first | exact hi | exact absurd hi (by simp [frz1, HO.ids])
    · cases h
/-! ### A loop's text -/
def findLoop (id : Nat) : Code → Option Code
  | .block i c => bif Nat.beq i id then (match c with | .loop c => some c | _ => none) else findLoop id c
  | .seq x y => (match findLoop id x with | some c => some c | none => findLoop id y)
  | .cond _ x y => (match findLoop id x with | some c => some c | none => findLoop id y)
  | .loop c => findLoop id c
  | .scope c => findLoop id c
  | _ => none
def loopC (P : Program) (f : FuncId) (id : Nat) : Code := match P.funcs[f]? with | some fn => (match fn.body with | some c => (findLoop id c).getD .skip | none => .skip) | none => .skip
/-! ### Contracts under whatever names -/
def gridAt (hp : Hp) (id : Nat) (sh : List Sh) : Option (List (List Ct)) := match hlook hp id with
  | some (.grid sh' l) => bif shEqL sh' sh then some l else none
  | _ => none
theorem gridAt_spec {hp : Hp} {id : Nat} {sh : List Sh} {l : List (List Ct)} (h : gridAt hp id sh = some l) : hlook hp id = some (.grid sh l) := by
  unfold gridAt at h
  split at h
  · rename_i sh' l' ho
    cases hb : shEqL sh' sh with
    | false => rw [hb] at h; cases h
    | true =>
      rw [hb] at h
      cases h
      rw [ho, shEqL_spec hb]
  · cases h
end Go.Proofs.Ythgneojhhocflaa
