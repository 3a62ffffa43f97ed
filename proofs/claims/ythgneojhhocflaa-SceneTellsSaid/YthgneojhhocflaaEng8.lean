/- A symbolic way through the code of a call: what a piece of code does to slots and blocks. No condition. -/
import Derived.Test.YthgneojhhocflaaEng7
import Derived.LoopN
import Derived.Scope
set_option linter.unusedVariables false
namespace Go.Proofs.Ythgneojhhocflaa
open Go.RowKit

structure St where
  fr : List RV
  hp : Hp
  nx : Nat
  W : List Nat
inductive Ex where
  | normal
  | exit (id : Nat)
  | ret
def Ex.to : Ex → Exit
  | .normal => .normal
  | .exit id => .exit id
  | .ret => .ret
/-- An old block that was one's own and was written; an old block that is read alone. -/
def WroteW (W : List Nat) (H0 : Nat → Option HO) (n0 : Nat) (e : Env) (b : Nat) : Prop := ∃ id0 ∈ W, id0 < n0 ∧ ∃ o0, H0 id0 = some o0 ∧ o0.owns e id0 b
def ReadsH (H0 : Nat → Option HO) (n0 : Nat) (e : Env) (b : Nat) : Prop := ∃ id0 o0, id0 < n0 ∧ H0 id0 = some o0 ∧ o0.foot e id0 b ∧ ¬ o0.owns e id0 b
theorem WroteW.same {W W' : List Nat} {H0 : Nat → Option HO} {n0 : Nat} {e e' : Env} {b : Nat} (hs : ∀ id, id < n0 → e.same e' id) (hW : ∀ id ∈ W, id < n0 → id ∈ W') (h : WroteW W H0 n0 e b) : WroteW W' H0 n0 e' b := by
  obtain ⟨id0, h2, h3, o0, h4, h5⟩ := h
  exact ⟨id0, hW id0 h2 h3, h3, o0, h4, (HO.owns_same (hs id0 h3)).2 h5⟩
theorem ReadsH.same {H0 : Nat → Option HO} {n0 : Nat} {e e' : Env} {b : Nat} (hs : ∀ id, id < n0 → e.same e' id) (h : ReadsH H0 n0 e b) : ReadsH H0 n0 e' b := by
  obtain ⟨id0, o0, h3, h4, h5, h6⟩ := h
  exact ⟨id0, o0, h3, h4, (HO.foot_same (hs id0 h3)).2 h5, fun h => h6 ((HO.owns_same (hs id0 h3)).1 h)⟩
/-- Where a call's code stands: n0, base, H0 are the first free name, the first new block, and what lay under the names, as the call began. -/
structure Stands (n0 base : Nat) (H0 : Nat → Option HO) (st : St) (e : Env) (a : Act) (w : World) : Prop where
  size : a.tmps.size = st.fr.length
  fr : ∀ (s : Nat) r, st.fr[s]? = some r → Fits e r a.tmps[s]?
  defers : a.defers = []
  sat : Sat e (hlook st.hp) w
  own : ∀ id o b, hlook st.hp id = some o → n0 ≤ id → o.owns e id b → base ≤ b ∨ WroteW st.W H0 n0 e b
  foot : ∀ id o b, hlook st.hp id = some o → n0 ≤ id → o.foot e id b → base ≤ b ∨ WroteW st.W H0 n0 e b ∨ ReadsH H0 n0 e b
  old : ∀ id o, hlook st.hp id = some o → id < n0 → ∃ o0, H0 id = some o0 ∧ Kle o0 o
structure Moves (n0 base : Nat) (H0 : Nat → Option HO) (st st' : St) (e e' : Env) (w w' : World) : Prop where
  agree : ∀ id, id < n0 ∨ st'.nx ≤ id → e.same e' id
  os : w'.os = w.os
  tape : w'.tape = w.tape
  output : w'.output = w.output
  size : w.heap.size ≤ w'.heap.size
  fr : ∀ k, k < base → ¬ WroteW st'.W H0 n0 e k → w'.heap[k]? = w.heap[k]?
/-- Code that leads from st into one of the places of R. -/
def CodeTo (P : Program) (n0 : Nat) (c : Code) (st : St) (R : Ex → St → Prop) : Prop :=
  Names st.fr st.hp st.nx → n0 ≤ st.nx → ∀ (base : Nat) (H0 : Nat → Option HO) (e : Env) (a : Act) (w : World), base ≤ w.heap.size → Stands n0 base H0 st e a w →
    ∀ Q : Exit → Act → World → Prop, (∀ ex st' e' a' w', R ex st' → Names st'.fr st'.hp st'.nx → st.nx ≤ st'.nx → (∀ id ∈ st.W, id < n0 → id ∈ st'.W) → Moves n0 base H0 st st' e e' w w' → Stands n0 base H0 st' e' a' w' → Q ex.to a' w') → c.wp P Q a w

theorem Moves.refl (n0 base : Nat) (H0 : Nat → Option HO) (st : St) (e : Env) (w : World) : Moves n0 base H0 st st e e w w := ⟨fun _ _ => .refl _ _, rfl, rfl, rfl, Nat.le_refl _, fun _ _ _ => rfl⟩
theorem Moves.trans {n0 base : Nat} {H0 : Nat → Option HO} {s1 s2 s3 : St} {e1 e2 e3 : Env} {w1 w2 w3 : World} (h23 : s2.nx ≤ s3.nx) (hW : ∀ id ∈ s2.W, id < n0 → id ∈ s3.W)
    (h : Moves n0 base H0 s1 s2 e1 e2 w1 w2) (k : Moves n0 base H0 s2 s3 e2 e3 w2 w3) : Moves n0 base H0 s1 s3 e1 e3 w1 w3 := by
  refine ⟨fun id hid => ?_, k.os.trans h.os, k.tape.trans h.tape, k.output.trans h.output, Nat.le_trans h.size k.size, fun b hb hne => ?_⟩
  · exact (h.agree id (hid.imp (fun h => h) fun h => Nat.le_trans h23 h)).trans (k.agree id hid)
  · rw [k.fr b hb fun hw => hne (hw.same (fun id hid => (h.agree id (.inl hid)).symm) fun _ h _ => h)]
    exact h.fr b hb fun hw => hne (hw.same (fun _ _ => .refl _ _) hW)
theorem CodeTo.mono {P : Program} {n0 : Nat} {c : Code} {st : St} {R R' : Ex → St → Prop} (h : CodeTo P n0 c st R) (hr : ∀ ex s, R ex s → R' ex s) : CodeTo P n0 c st R' :=
  fun hn hn0 base H0 e a w h2 hs Q hQ => h hn hn0 base H0 e a w h2 hs Q fun ex st' e' a' w' hR => hQ ex st' e' a' w' (hr _ _ hR)
theorem CodeTo.skip {P : Program} {n0 : Nat} {st : St} {R : Ex → St → Prop} (h : R .normal st) : CodeTo P n0 .skip st R :=
  fun hn hn0 base H0 e a w _ hs Q hQ => wp_skip (hQ .normal st e a w h hn (Nat.le_refl _) (fun _ h _ => h) (.refl ..) hs)
theorem CodeTo.label {P : Program} {n0 : Nat} {st : St} {l : Nat} {R : Ex → St → Prop} (h : R .normal st) : CodeTo P n0 (.label l) st R :=
  fun hn hn0 base H0 e a w _ hs Q hQ => wp_label (hQ .normal st e a w h hn (Nat.le_refl _) (fun _ h _ => h) (.refl ..) hs)
theorem CodeTo.exit {P : Program} {n0 : Nat} {st : St} {id : Nat} {R : Ex → St → Prop} (h : R (.exit id) st) : CodeTo P n0 (.exit id) st R :=
  fun hn hn0 base H0 e a w _ hs Q hQ => wp_exit (hQ (.exit id) st e a w h hn (Nat.le_refl _) (fun _ h _ => h) (.refl ..) hs)
theorem CodeTo.ret {P : Program} {n0 : Nat} {st : St} {R : Ex → St → Prop} (h : R .ret st) : CodeTo P n0 .ret st R :=
  fun hn hn0 base H0 e a w _ hs Q hQ => wp_ret (hQ .ret st e a w h hn (Nat.le_refl _) (fun _ h _ => h) (.refl ..) hs)
theorem CodeTo.seq {P : Program} {n0 : Nat} {x y : Code} {st : St} {R R' : Ex → St → Prop} (hx : CodeTo P n0 x st R) (hy : ∀ s, R .normal s → CodeTo P n0 y s R') (ho : ∀ ex s, ex ≠ .normal → R ex s → R' ex s) : CodeTo P n0 (.seq x y) st R' := by
  intro hn hn0 base H0 e a w h2 hs Q hQ
  refine wp_seq (hx hn hn0 base H0 e a w h2 hs _ fun ex s e' a' w' hR hn' hnx hW hm hs' => ?_)
  cases ex with
  | normal =>
    show y.wp P Q a' w'
    refine hy s hR hn' (Nat.le_trans hn0 hnx) base H0 e' a' w' (Nat.le_trans h2 hm.size) hs' Q fun ex' s' e'' a'' w'' hR' hn'' hnx' hW' hm' hs'' => ?_
    exact hQ ex' s' e'' a'' w'' hR' hn'' (Nat.le_trans hnx hnx') (fun id h hlt => hW' id (hW id h hlt) hlt) (hm.trans hnx' hW' hm') hs''
  | exit i => exact hQ _ _ e' a' w' (ho _ _ (by intro h; cases h) hR) hn' hnx hW hm hs'
  | ret => exact hQ _ _ e' a' w' (ho _ _ (by intro h; cases h) hR) hn' hnx hW hm hs'
theorem CodeTo.block {P : Program} {n0 : Nat} {c : Code} {st : St} {id : Nat} {R R' : Ex → St → Prop} (hx : CodeTo P n0 c st R) (hn : ∀ s, R .normal s → R' .normal s) (he : ∀ s, R (.exit id) s → R' .normal s) (ho : ∀ i s, i ≠ id → R (.exit i) s → R' (.exit i) s) (hr : ∀ s, R .ret s → R' .ret s) :
    CodeTo P n0 (.block id c) st R' := by
  intro hnm hn0 base H0 e a w h2 hs Q hQ
  refine wp_block (hx hnm hn0 base H0 e a w h2 hs _ fun ex s e' a' w' hR hn' hnx hW hm hs' => ?_)
  cases ex with
  | normal => exact hQ .normal s e' a' w' (hn _ hR) hn' hnx hW hm hs'
  | exit i =>
    show (if i = id then _ else _)
    by_cases hi : i = id
    · subst hi; rw [if_pos rfl]; exact hQ .normal s e' a' w' (he _ hR) hn' hnx hW hm hs'
    · rw [if_neg hi]; exact hQ (.exit i) s e' a' w' (ho _ _ hi hR) hn' hnx hW hm hs'
  | ret => exact hQ .ret s e' a' w' (hr _ hR) hn' hnx hW hm hs'
theorem CodeTo.scope {P : Program} {n0 : Nat} {c : Code} {st : St} {R : Ex → St → Prop} (hx : CodeTo P n0 c st R) : CodeTo P n0 (.scope c) st R := by
  intro hnm hn0 base H0 e a w h2 hs Q hQ
  refine wp_scope_straight (hx hnm hn0 base H0 e a w h2 hs _ fun ex s e' a' w' hR hn' hnx hW hm hs' => ?_)
  have := hQ ex s e' a' w' hR hn' hnx hW hm hs'
  cases ex <;> exact this
theorem Stands.eval {n0 base : Nat} {H0 : Nat → Option HO} {st : St} {e : Env} {a : Act} {w : World} (hs : Stands n0 base H0 st e a w) (c : Operand) (hd : (opnd st.fr c).isDead = false) : a.eval c = (opnd st.fr c).den e := by
  cases c with
  | tmp s =>
    simp only [opnd, List.getD_eq_getElem?_getD] at hd ⊢
    simp only [Act.eval, Array.getD_eq_getD_getElem?]
    cases hh : st.fr[s]? with
    | none => rw [Array.getElem?_eq_none (by rw [hs.size]; exact List.getElem?_eq_none_iff.1 hh)]; rfl
    | some r =>
      rw [hh] at hd
      rw [(hs.fr s r hh).resolve_left (by simp only [Option.getD_some] at hd; rw [hd]; simp)]
      rfl
  | const v => simp only [Act.eval, opnd, RV.den_ofVal]
  | global g => rfl
  | func f => rfl
theorem CodeTo.cond {P : Program} {n0 : Nat} {x y : Code} {st : St} {R : Ex → St → Prop} {c : Operand} {k b : Bool} (hc : opnd st.fr c = .sv (.one (.val k (.bool b)))) (hx : CodeTo P n0 (if b then x else y) st R) : CodeTo P n0 (.cond c x y) st R := by
  intro hnm hn0 base H0 e a w h2 hs Q hQ
  refine wp_cond (t := b) ?_ (hx hnm hn0 base H0 e a w h2 hs Q hQ)
  rw [hs.eval c (by rw [hc]; rfl), hc]; rfl
/-- A loop, round by round. -/
def RoundsTo (P : Program) (n0 : Nat) (c : Code) (m : Nat) (st : St) (R : Ex → St → Prop) : Prop :=
  Names st.fr st.hp st.nx → n0 ≤ st.nx → ∀ (base : Nat) (H0 : Nat → Option HO) (e : Env) (a : Act) (w : World), base ≤ w.heap.size → Stands n0 base H0 st e a w →
    ∀ Q : Exit → Act → World → Prop, (∀ ex st' e' a' w', R ex st' → Names st'.fr st'.hp st'.nx → st.nx ≤ st'.nx → (∀ id ∈ st.W, id < n0 → id ∈ st'.W) → Moves n0 base H0 st st' e e' w w' → Stands n0 base H0 st' e' a' w' → Q ex.to a' w') → Code.rounds P c Q m a w
theorem RoundsTo.round {P : Program} {n0 : Nat} {c : Code} {m : Nat} {st : St} {R R' : Ex → St → Prop} (hx : CodeTo P n0 c st R) (ha : ∀ s, R .normal s → RoundsTo P n0 c m s R') (ho : ∀ ex s, ex ≠ .normal → R ex s → R' ex s) : RoundsTo P n0 c (m + 1) st R' := by
  intro hn hn0 base H0 e a w h2 hs Q hQ
  refine hx hn hn0 base H0 e a w h2 hs _ fun ex s e' a' w' hR hn' hnx hW hm hs' => ?_
  cases ex with
  | normal =>
    show Code.rounds P c Q m a' w'
    refine ha s hR hn' (Nat.le_trans hn0 hnx) base H0 e' a' w' (Nat.le_trans h2 hm.size) hs' Q fun ex' s' e'' a'' w'' hR' hn'' hnx' hW' hm' hs'' => ?_
    exact hQ ex' s' e'' a'' w'' hR' hn'' (Nat.le_trans hnx hnx') (fun id h hlt => hW' id (hW id h hlt) hlt) (hm.trans hnx' hW' hm') hs''
  | exit i => exact hQ _ _ e' a' w' (ho _ _ (by intro h; cases h) hR) hn' hnx hW hm hs'
  | ret => exact hQ _ _ e' a' w' (ho _ _ (by intro h; cases h) hR) hn' hnx hW hm hs'
theorem CodeTo.loop {P : Program} {n0 : Nat} {c : Code} {m : Nat} {st : St} {R : Ex → St → Prop} (h : RoundsTo P n0 c m st R) : CodeTo P n0 (.loop c) st R :=
  fun hn hn0 base H0 e a w h2 hs Q hQ => wp_loop_rounds m (h hn hn0 base H0 e a w h2 hs Q hQ)

def wsT (W0 : List Nat) : List Tr → List Nat
  | [] => W0
  | t :: ts => t.W ++ wsT W0 ts
theorem wsT_old {W0 : List Nat} {trs : List Tr} : ∀ id ∈ W0, id ∈ wsT W0 trs := by
  induction trs with
  | nil => exact fun _ h => h
  | cons t ts ih => exact fun id h => List.mem_append_right _ (ih id h)
theorem wsT_at {W0 : List Nat} {trs : List Tr} {j : Nat} {u : Tr} (h : At trs j u) : ∀ id ∈ u.W, id ∈ wsT W0 trs := by
  induction trs with
  | nil => exact absurd h.lt (by simp)
  | cons t ts ih =>
    rcases At.cons.1 h with ⟨_, rfl⟩ | h
    · exact fun id hid => List.mem_append_left _ hid
    · exact fun id hid => List.mem_append_right _ (ih h id hid)
theorem masks_length : ∀ (l : List Oper) (acc : List Nat), (masks l acc).length = l.length + acc.length := by
  intro l
  induction l with
  | nil => intro acc; simp [masks]
  | cons o l ih => intro acc; simp only [masks, ih, List.length_cons]; omega
theorem CodeTo.region {P : Program} {n0 : Nat} {id : Nat} {ops : Array Oper} {draw : Bool} {st : St} {trs : List Tr} {R : Ex → St → Prop} (htr : TrsOk P ops st.fr st.hp st.nx trs) (hlen : trs.length = ops.size)
    (hd : draw = true → P.follows .mixedOrders = true ∧ edgesBack ops.toList 0 = true ∧ chkAll trs (masks ops.toList []) = true) (hR : R .normal ⟨frT st.fr trs, hpT st.hp trs, nxT st.nx trs, wsT st.W trs⟩) :
    CodeTo P n0 (.region id ops draw) st R := by
  intro hn hn0 base H0 e a w h2 hs Q hQ
  have hnm := htr.names hn
  have hle := hnm.2
  have conv : ∀ b, Wrote trs st.hp st.nx e b → base ≤ b ∨ WroteW (wsT st.W trs) H0 n0 e b := by
    rintro b ⟨j, u, hj, id0, h1, h3, o0, h4, h5⟩
    by_cases h6 : id0 < n0
    · obtain ⟨oH, h7, h8⟩ := hs.old id0 o0 h4 h6
      exact .inr ⟨id0, wsT_at hj id0 h1, h6, oH, h7, h8.owns h5⟩
    · exact (hs.own id0 o0 b h4 (by omega) h5).imp (fun h => h) fun h => h.same (fun _ _ => .refl _ _) fun i hi _ => wsT_old i hi
  have convR : ∀ b, Reads st.hp st.nx e b → base ≤ b ∨ WroteW (wsT st.W trs) H0 n0 e b ∨ ReadsH H0 n0 e b := by
    rintro b ⟨id0, o0, h3, h4, h5, h5'⟩
    by_cases h6 : id0 < n0
    · obtain ⟨oH, h7, h8⟩ := hs.old id0 o0 h4 h6
      have h9 := h8 e id0 b h5
      exact .inr (.inr ⟨id0, oH, h6, h7, h9.1, fun h => h5' (h9.2.2 h)⟩)
    · exact (hs.foot id0 o0 b h4 (by omega) h5).imp (fun h => h) (Or.imp (fun h => h.same (fun _ _ => .refl _ _) fun i hi _ => wsT_old i hi) fun h => h)
  have fin : ∀ L a' w' e', (∀ j, j < ops.size → L j = true) → Inv st.fr st.hp st.nx trs e w L a' w' e' → Q .normal a' w' := by
    intro L a' w' e' hL hinv
    have hfr : ∀ s, frL L st.fr s trs = (frT st.fr trs).getD s RV.und := fun s => frL_all htr fun j u hj _ => hL j (by have := hj.lt; omega)
    have hhp : ∀ i, hpL L st.hp i trs = hlook (hpT st.hp trs) i := fun i => hpL_all fun j u hj _ => hL j (by have := hj.lt; omega)
    have hlow : ∀ i, i < n0 → e.same e' i := fun i hi => hinv.agree i (.inl (by omega))
    have hlow' : ∀ i, i < st.nx → e'.same e i := fun i hi => (hinv.agree i (.inl hi)).symm
    refine hQ .normal _ e' a' w' hR hnm.1 hle (fun i hi _ => wsT_old i hi) ⟨fun i hi => hinv.agree i (hi.imp (fun h => by omega) fun h => h), hinv.os, hinv.tape, hinv.output, hinv.grown, fun k hk hne => ?_⟩
      ⟨?_, fun s r hr => ?_, hinv.defers, hinv.sat.sub fun i o h => (hhp i).trans h, fun i o b ho hi hf => ?_, fun i o b ho hi hf => ?_, fun i o ho hi => ?_⟩
    · refine hinv.fr k (Nat.lt_of_lt_of_le hk h2) fun hw => ?_
      rcases conv k hw with h | h
      · omega
      · exact hne h
    · rw [hinv.size, frT_length]
    · have hlt : s < st.fr.length := by
        rcases Nat.lt_or_ge s st.fr.length with h | h
        · exact h
        · rw [List.getElem?_eq_none (by rw [frT_length]; exact h)] at hr; cases hr
      have := hinv.slot s hlt
      rw [hfr s, List.getD_eq_getElem?_getD, hr] at this
      exact this
    · by_cases hi0 : st.nx ≤ i
      · rcases hinv.own i o b ((hhp i).trans ho) hi0 hf with h3 | h3
        · exact .inl (Nat.le_trans h2 h3)
        · exact (conv b (h3.same hlow')).imp (fun h => h) fun h => h.same hlow fun _ h _ => h
      · obtain ⟨o0, h3, h4⟩ := hpT_old hn htr i o (by omega) ho
        exact (hs.own i o0 b h3 hi ((HO.owns_same (hinv.agree i (.inl (by omega)))).1 (h4.owns hf))).imp (fun h => h) fun h => h.same hlow fun i hi _ => wsT_old i hi
    · by_cases hi0 : st.nx ≤ i
      · rcases hinv.foot i o b ((hhp i).trans ho) hi0 hf with h3 | h3 | h3
        · exact .inl (Nat.le_trans h2 h3)
        · exact (conv b (h3.same hlow')).imp (fun h => h) fun h => .inl (h.same hlow fun _ h _ => h)
        · exact (convR b (h3.same hlow')).imp (fun h => h) (Or.imp (fun h => h.same hlow fun _ h _ => h) fun h => h.same hlow)
      · obtain ⟨o0, h3, h4⟩ := hpT_old hn htr i o (by omega) ho
        exact (hs.foot i o0 b h3 hi ((HO.foot_same (hinv.agree i (.inl (by omega)))).1 (h4 _ _ _ hf).1)).imp (fun h => h) (Or.imp (fun h => h.same hlow fun i hi _ => wsT_old i hi) fun h => h.same hlow)
    · obtain ⟨o0, h3, h4⟩ := hpT_old hn htr i o (by omega) ho
      obtain ⟨oH, h5, h6⟩ := hs.old i o0 h3 hi
      exact ⟨oH, h5, h6.trans h4⟩
  cases draw with
  | false =>
    refine wp_region ?_
    have := wpOps_range (Q := Q) hn htr hlen (fun a w e' h => fin _ a w e' (fun j hj => Done.iff.2 hj) h) ops.size 0 a w e (by omega)
      (Inv.start hn hs.size hs.fr hs.defers hs.sat (.inl rfl) (fun j _ => by cases h : Done 0 j with | false => rfl | true => exact absurd (Done.iff.1 h) (by omega)))
    rwa [← List.range_eq_range'] at this
  | true =>
    obtain ⟨hm, hb, hc⟩ := hd rfl
    refine wp_region_any hm ?_
    refine wpAny_inv hn htr hlen hb hc (by rw [masks_length, hlen]; simp) (fun L a' w' e' hL h => fin L a' w' e' hL h) ops.size _ a _ e (by simp) (by
      refine Nat.le_trans (List.length_filter_le _ _) (by simp)) (fun i hi => ?_) (Inv.start hn hs.size hs.fr hs.defers hs.sat (.inr rfl) (fun j _ => getD_replicate_false _ _))
    rw [getD_replicate_false] at hi; cases hi
end Go.Proofs.Ythgneojhhocflaa
