/- A symbolic way through the code of a call: what a piece of code does to slots and blocks. No condition. -/
import Derived.Test.YtaikocplcblnkabEng7
import Derived.LoopN
import Derived.Scope
set_option linter.unusedVariables false
namespace Go.Proofs.Ytaikocplcblnkab
open Go.RowKit

structure St where
  fr : List RV
  hp : Hp
  nx : Nat
  W : List Nat
inductive Ex where
  | normal
  | exit (id : Nat)
  | ret
def Ex.to : Ex → Exit
  | .normal => .normal
  | .exit id => .exit id
  | .ret => .ret
/-- Where a call's code stands: n0, base, H0 are the first free name, the first new block, and what lay under the names, as the call began. -/
structure Stands (n0 base : Nat) (H0 : Nat → Option HO) (st : St) (e : Env) (a : Act) (w : World) : Prop where
  fr : a.tmps.toList = st.fr.map (RV.den e)
  defers : a.defers = []
  sat : Sat e (hlook st.hp) w
  org : ∀ id o b, hlook st.hp id = some o → n0 ≤ id → o.foot e id b → base ≤ b ∨ (o.isCells = false ∧ ∃ id0 o0, id0 < n0 ∧ H0 id0 = some o0 ∧ o0.isCells = false ∧ o0.foot e id0 b)
  old : ∀ id o, hlook st.hp id = some o → id < n0 → H0 id = some o ∨ (o.isCells = true ∧ ∃ cs ty, H0 id = some (.cells cs ty))
structure Moves (n0 base : Nat) (st st' : St) (e e' : Env) (w w' : World) : Prop where
  agree : ∀ id, id < st.nx ∨ st'.nx ≤ id → e.same e' id
  os : w'.os = w.os
  tape : w'.tape = w.tape
  output : w'.output = w.output
  size : w.heap.size ≤ w'.heap.size
  fr : ∀ k, k < base → (∀ id ∈ st'.W, id < n0 → e.ρ id ≠ k) → w'.heap[k]? = w.heap[k]?
structure CodeOk (P : Program) (c : Code) (st : St) (ex : Ex) (st' : St) : Prop where
  names : Names st.fr st.hp st.nx → Names st'.fr st'.hp st'.nx ∧ st.nx ≤ st'.nx
  W : ∀ id ∈ st.W, id ∈ st'.W
  goes : Names st.fr st.hp st.nx → ∀ (n0 base : Nat) (H0 : Nat → Option HO) (e : Env) (a : Act) (w : World), n0 ≤ st.nx → base ≤ w.heap.size → Stands n0 base H0 st e a w →
    ∀ Q : Exit → Act → World → Prop, (∀ e' a' w', Moves n0 base st st' e e' w w' → Stands n0 base H0 st' e' a' w' → Q ex.to a' w') → c.wp P Q a w

theorem Moves.refl (n0 base : Nat) (st : St) (e : Env) (w : World) : Moves n0 base st st e e w w := ⟨fun _ _ => ⟨rfl, rfl⟩, rfl, rfl, rfl, Nat.le_refl _, fun _ _ _ => rfl⟩
theorem Moves.trans {n0 base : Nat} {s1 s2 s3 : St} {e1 e2 e3 : Env} {w1 w2 w3 : World} (hn : n0 ≤ s1.nx) (h12 : s1.nx ≤ s2.nx) (h23 : s2.nx ≤ s3.nx) (hW : ∀ id ∈ s2.W, id ∈ s3.W)
    (h : Moves n0 base s1 s2 e1 e2 w1 w2) (k : Moves n0 base s2 s3 e2 e3 w2 w3) : Moves n0 base s1 s3 e1 e3 w1 w3 := by
  refine ⟨fun id hid => ?_, k.os.trans h.os, k.tape.trans h.tape, k.output.trans h.output, Nat.le_trans h.size k.size, fun b hb hne => ?_⟩
  · have a1 := h.agree id (by rcases hid with hid | hid
                              · exact .inl hid
                              · exact .inr (by omega))
    have a2 := k.agree id (by rcases hid with hid | hid
                              · exact .inl (by omega)
                              · exact .inr hid)
    exact ⟨a2.1.trans a1.1, a2.2.trans a1.2⟩
  · rw [k.fr b hb fun id hid hlt => ?_]
    · exact h.fr b hb fun id hid hlt => hne id (hW id hid) hlt
    · rw [(h.agree id (.inl (by omega))).1]; exact hne id hid hlt
theorem CodeOk.skip {P : Program} {st : St} : CodeOk P .skip st .normal st :=
  ⟨fun h => ⟨h, Nat.le_refl _⟩, fun _ h => h, fun _ n0 base H0 e a w _ _ hs Q hQ => wp_skip (hQ e a w (.refl ..) hs)⟩
theorem CodeOk.label {P : Program} {st : St} {l : Nat} : CodeOk P (.label l) st .normal st :=
  ⟨fun h => ⟨h, Nat.le_refl _⟩, fun _ h => h, fun _ n0 base H0 e a w _ _ hs Q hQ => wp_label (hQ e a w (.refl ..) hs)⟩
theorem CodeOk.exit {P : Program} {st : St} {id : Nat} : CodeOk P (.exit id) st (.exit id) st :=
  ⟨fun h => ⟨h, Nat.le_refl _⟩, fun _ h => h, fun _ n0 base H0 e a w _ _ hs Q hQ => wp_exit (hQ e a w (.refl ..) hs)⟩
theorem CodeOk.ret {P : Program} {st : St} : CodeOk P .ret st .ret st :=
  ⟨fun h => ⟨h, Nat.le_refl _⟩, fun _ h => h, fun _ n0 base H0 e a w _ _ hs Q hQ => wp_ret (hQ e a w (.refl ..) hs)⟩
theorem CodeOk.seq {P : Program} {x y : Code} {s1 s2 s3 : St} {ex : Ex} (hx : CodeOk P x s1 .normal s2) (hy : CodeOk P y s2 ex s3) : CodeOk P (.seq x y) s1 ex s3 := by
  refine ⟨fun h => ⟨(hy.names (hx.names h).1).1, Nat.le_trans (hx.names h).2 (hy.names (hx.names h).1).2⟩, fun id h => hy.W id (hx.W id h), fun hn n0 base H0 e a w h1 h2 hs Q hQ => ?_⟩
  have hn2 := hx.names hn
  have hn3 := hy.names hn2.1
  refine wp_seq (hx.goes hn n0 base H0 e a w h1 h2 hs _ fun e' a' w' hm hs' => ?_)
  show y.wp P Q a' w'
  exact hy.goes hn2.1 n0 base H0 e' a' w' (Nat.le_trans h1 hn2.2) (Nat.le_trans h2 hm.size) hs' Q fun e'' a'' w'' hm' hs'' => hQ e'' a'' w'' (hm.trans h1 hn2.2 hn3.2 hy.W hm') hs''
theorem CodeOk.seq_out {P : Program} {x y : Code} {s1 s2 : St} {ex : Ex} (hx : CodeOk P x s1 ex s2) (hex : ex ≠ .normal) : CodeOk P (.seq x y) s1 ex s2 := by
  refine ⟨hx.names, hx.W, fun hn n0 base H0 e a w h1 h2 hs Q hQ => wp_seq (hx.goes hn n0 base H0 e a w h1 h2 hs _ fun e' a' w' hm hs' => ?_)⟩
  have := hQ e' a' w' hm hs'
  cases ex with
  | normal => exact absurd rfl hex
  | exit id => exact this
  | ret => exact this
theorem CodeOk.block_same {P : Program} {c : Code} {s1 s2 : St} {ex : Ex} {id : Nat} (hx : CodeOk P c s1 ex s2) (hex : ex ≠ .exit id) : CodeOk P (.block id c) s1 ex s2 := by
  refine ⟨hx.names, hx.W, fun hn n0 base H0 e a w h1 h2 hs Q hQ => wp_block (hx.goes hn n0 base H0 e a w h1 h2 hs _ fun e' a' w' hm hs' => ?_)⟩
  have := hQ e' a' w' hm hs'
  cases ex with
  | normal => exact this
  | exit id' =>
    show (if id' = id then _ else _)
    rw [if_neg (fun h => hex (by rw [h]))]
    exact this
  | ret => exact this
theorem CodeOk.block_exit {P : Program} {c : Code} {s1 s2 : St} {id : Nat} (hx : CodeOk P c s1 (.exit id) s2) : CodeOk P (.block id c) s1 .normal s2 := by
  refine ⟨hx.names, hx.W, fun hn n0 base H0 e a w h1 h2 hs Q hQ => wp_block (hx.goes hn n0 base H0 e a w h1 h2 hs _ fun e' a' w' hm hs' => ?_)⟩
  show (if id = id then _ else _)
  rw [if_pos rfl]
  exact hQ e' a' w' hm hs'
theorem CodeOk.scope {P : Program} {c : Code} {s1 s2 : St} {ex : Ex} (hx : CodeOk P c s1 ex s2) : CodeOk P (.scope c) s1 ex s2 := by
  refine ⟨hx.names, hx.W, fun hn n0 base H0 e a w h1 h2 hs Q hQ => wp_scope_straight (hx.goes hn n0 base H0 e a w h1 h2 hs _ fun e' a' w' hm hs' => ?_)⟩
  have := hQ e' a' w' hm hs'
  cases ex <;> exact this
theorem CodeOk.cond {P : Program} {x y : Code} {s1 s2 : St} {ex : Ex} {c : Operand} {k b : Bool} (hc : opnd s1.fr c = .sv (.one (.val k (.bool b)))) (hx : CodeOk P (if b then x else y) s1 ex s2) : CodeOk P (.cond c x y) s1 ex s2 := by
  refine ⟨hx.names, hx.W, fun hn n0 base H0 e a w h1 h2 hs Q hQ => wp_cond (t := b) ?_ (hx.goes hn n0 base H0 e a w h1 h2 hs Q hQ)⟩
  cases c with
  | tmp s =>
    simp only [opnd] at hc
    have h3 : a.tmps.toList[s]? = (s1.fr.map (RV.den e))[s]? := by rw [hs.fr]
    rw [Array.getElem?_toList, List.getElem?_map] at h3
    rw [List.getD_eq_getElem?_getD] at hc
    simp only [Act.eval, Array.getD_eq_getD_getElem?, h3]
    cases hh : s1.fr[s]? with
    | none => rw [hh] at hc; simp only [Option.getD_none, RV.und, RV.sv.injEq, SV.one.injEq, CV.val.injEq] at hc; exact absurd hc.2 (by unfold undef; simp)
    | some r =>
      rw [hh] at hc
      simp only [Option.getD_some] at hc
      rw [hc]; rfl
  | const v =>
    simp only [opnd] at hc
    have := RV.den_ofVal env0 true v
    rw [hc] at this
    exact this.symm
  | global g => simp [opnd] at hc
  | func f => simp [opnd] at hc
/-- A loop, round by round. -/
inductive RoundsOk (P : Program) (c : Code) : St → Ex → St → Prop
  | out {s1 s2 : St} {ex : Ex} : CodeOk P c s1 ex s2 → ex ≠ .normal → RoundsOk P c s1 ex s2
  | again {s1 s2 s3 : St} {ex : Ex} : CodeOk P c s1 .normal s2 → RoundsOk P c s2 ex s3 → RoundsOk P c s1 ex s3
theorem CodeOk.loop {P : Program} {c : Code} {s1 s2 : St} {ex : Ex} (h : RoundsOk P c s1 ex s2) : CodeOk P (.loop c) s1 ex s2 := by
  have key : (Names s1.fr s1.hp s1.nx → Names s2.fr s2.hp s2.nx ∧ s1.nx ≤ s2.nx) ∧ (∀ id ∈ s1.W, id ∈ s2.W) ∧ ∃ n, Names s1.fr s1.hp s1.nx → ∀ (n0 base : Nat) (H0 : Nat → Option HO) (e : Env) (a : Act) (w : World), n0 ≤ s1.nx → base ≤ w.heap.size → Stands n0 base H0 s1 e a w →
      ∀ Q : Exit → Act → World → Prop, (∀ e' a' w', Moves n0 base s1 s2 e e' w w' → Stands n0 base H0 s2 e' a' w' → Q ex.to a' w') → Code.rounds P c Q n a w := by
    induction h with
    | @out s1 s2 ex hx hex =>
      refine ⟨hx.names, hx.W, 1, fun hn n0 base H0 e a w h1 h2 hs Q hQ => hx.goes hn n0 base H0 e a w h1 h2 hs _ fun e' a' w' hm hs' => ?_⟩
      have := hQ e' a' w' hm hs'
      cases ex with
      | normal => exact absurd rfl hex
      | exit id => exact this
      | ret => exact this
    | @again s1 s2 s3 ex hx _ ih =>
      obtain ⟨i1, i2, n, i3⟩ := ih
      refine ⟨fun h => ⟨(i1 (hx.names h).1).1, Nat.le_trans (hx.names h).2 (i1 (hx.names h).1).2⟩, fun id h => i2 id (hx.W id h), n + 1, fun hn n0 base H0 e a w h1 h2 hs Q hQ => hx.goes hn n0 base H0 e a w h1 h2 hs _ fun e' a' w' hm hs' => ?_⟩
      have hn2 := hx.names hn
      have hn3 := i1 hn2.1
      exact i3 hn2.1 n0 base H0 e' a' w' (Nat.le_trans h1 hn2.2) (Nat.le_trans h2 hm.size) hs' Q fun e'' a'' w'' hm' hs'' => hQ e'' a'' w'' (hm.trans h1 hn2.2 hn3.2 i2 hm') hs''
  obtain ⟨k1, k2, n, k3⟩ := key
  exact ⟨k1, k2, fun hn n0 base H0 e a w h1 h2 hs Q hQ => wp_loop_rounds n (k3 hn n0 base H0 e a w h1 h2 hs Q hQ)⟩

def wsT (W0 : List Nat) : List Tr → List Nat
  | [] => W0
  | t :: ts => t.W ++ wsT W0 ts
theorem wsT_old {W0 : List Nat} {trs : List Tr} : ∀ id ∈ W0, id ∈ wsT W0 trs := by
  induction trs with
  | nil => exact fun _ h => h
  | cons t ts ih => exact fun id h => List.mem_append_right _ (ih id h)
theorem wsT_at {W0 : List Nat} {trs : List Tr} {j : Nat} {u : Tr} (h : At trs j u) : ∀ id ∈ u.W, id ∈ wsT W0 trs := by
  induction trs with
  | nil => exact absurd h.lt (by simp)
  | cons t ts ih =>
    rcases At.cons.1 h with ⟨_, rfl⟩ | h
    · exact fun id hid => List.mem_append_left _ hid
    · exact fun id hid => List.mem_append_right _ (ih h id hid)
theorem masks_length : ∀ (l : List Oper) (acc : List Nat), (masks l acc).length = l.length + acc.length := by
  intro l
  induction l with
  | nil => intro acc; simp [masks]
  | cons o l ih => intro acc; simp only [masks, ih, List.length_cons]; omega
theorem CodeOk.region {P : Program} {id : Nat} {ops : Array Oper} {draw : Bool} {st : St} {trs : List Tr} (htr : TrsOk P ops st.fr st.hp st.nx trs) (hlen : trs.length = ops.size)
    (hd : draw = true → P.follows .mixedOrders = true ∧ edgesBack ops.toList 0 = true ∧ chkAll trs (masks ops.toList []) = true) :
    CodeOk P (.region id ops draw) st .normal ⟨frT st.fr trs, hpT st.hp trs, nxT st.nx trs, wsT st.W trs⟩ := by
  refine ⟨fun hn => htr.names hn, fun id h => wsT_old id h, fun hn n0 base H0 e a w h1 h2 hs Q hQ => ?_⟩
  have fin : ∀ L a' w' e', (∀ j, j < ops.size → L j = true) → Inv st.fr st.hp st.nx trs e w L a' w' e' → Q .normal a' w' := by
    intro L a' w' e' hL hinv
    have hfr : ∀ s, frL L st.fr s trs = (frT st.fr trs).getD s RV.und := fun s => frL_all htr fun j u hj _ => hL j (by have := hj.lt; omega)
    have hhp : ∀ i, hpL L st.hp i trs = hlook (hpT st.hp trs) i := fun i => hpL_all fun j u hj _ => hL j (by have := hj.lt; omega)
    have hle := (htr.names hn).2
    refine hQ e' a' w' ⟨hinv.agree, hinv.os, hinv.tape, hinv.output, hinv.grown, fun k hk hne => ?_⟩ ⟨?_, hinv.defers, hinv.sat.sub fun i o h => (hhp i).trans h, fun i o b ho hi hf => ?_, fun i o ho hi => ?_⟩
    · refine hinv.fr k (Nat.lt_of_lt_of_le hk h2) fun j u hj i hi hlt hb => ?_
      by_cases hi0 : i < n0
      · exact hne i (wsT_at hj i hi) hi0 hb
      · obtain ⟨_, _, _, _, _, _, hok, _⟩ := htr.at hj
        obtain ⟨_, cs, ty, hu⟩ := (okOut_spec hok.out).W i hi
        obtain ⟨_, cs0, ty0, h3⟩ := up_old hn htr hj hlt hu
        rcases hs.org i _ (e.ρ i) h3 (by omega) rfl with h4 | ⟨h4, _⟩
        · omega
        · cases h4
    · apply List.ext_getElem?
      intro s
      rw [Array.getElem?_toList, List.getElem?_map]
      by_cases hlt : s < st.fr.length
      · rw [hinv.slot s hlt, hfr s, List.getD_eq_getElem?_getD, List.getElem?_eq_getElem (by rw [frT_length]; exact hlt)]
        rfl
      · rw [Array.getElem?_eq_none (by rw [hinv.size]; omega), List.getElem?_eq_none (by rw [frT_length]; omega)]
        rfl
    · by_cases hi0 : st.nx ≤ i
      · rcases hinv.org i o b ((hhp i).trans ho) hi0 hf with h3 | ⟨h3, id0, o0, h4, h5, h6, h7⟩
        · exact .inl (Nat.le_trans h2 h3)
        · by_cases h8 : n0 ≤ id0
          · rcases hs.org id0 o0 b h5 h8 ((HO.foot_same (hinv.agree id0 (.inl h4))).1 h7) with h9 | ⟨_, id1, o1, g1, g2, g3, g4⟩
            · exact .inl h9
            · exact .inr ⟨h3, id1, o1, g1, g2, g3, (HO.foot_same (hinv.agree id1 (.inl (by omega)))).2 g4⟩
          · rcases hs.old id0 o0 h5 (by omega) with h9 | ⟨h9, _⟩
            · exact .inr ⟨h3, id0, o0, by omega, h9, h6, h7⟩
            · rw [h6] at h9; cases h9
      · have hsame := hinv.agree i (.inl (by omega))
        rcases hpT_old hn htr i o (by omega) ho with h3 | ⟨h3, cs, ty, h4⟩
        · rcases hs.org i o b h3 hi ((HO.foot_same hsame).1 hf) with h4 | ⟨h4, id1, o1, g1, g2, g3, g4⟩
          · exact .inl h4
          · exact .inr ⟨h4, id1, o1, g1, g2, g3, (HO.foot_same (hinv.agree id1 (.inl (by omega)))).2 g4⟩
        · cases o with
          | cells cs' ty' =>
            rw [HO.foot_same hsame] at hf
            rcases hs.org i _ b h4 hi hf with h5 | ⟨h5, _⟩
            · exact .inl h5
            · cases h5
          | ro _ => cases h3
          | grid _ _ _ => cases h3
    · rcases hpT_old hn htr i o (by omega) ho with h3 | ⟨h3, cs, ty, h4⟩
      · exact hs.old i o h3 hi
      · rcases hs.old i _ h4 hi with h5 | ⟨_, h5⟩
        · exact .inr ⟨h3, cs, ty, h5⟩
        · exact .inr ⟨h3, h5⟩
  cases draw with
  | false =>
    refine wp_region ?_
    have := wpOps_range (Q := Q) hn htr hlen (fun a w e' h => fin _ a w e' (fun j hj => Done.iff.2 hj) h) ops.size 0 a w e (by omega)
      (Inv.start hn hs.fr hs.defers hs.sat (.inl rfl) (fun j _ => by cases h : Done 0 j with | false => rfl | true => exact absurd (Done.iff.1 h) (by omega)))
    rwa [← List.range_eq_range'] at this
  | true =>
    obtain ⟨hm, hb, hc⟩ := hd rfl
    refine wp_region_any hm ?_
    refine wpAny_inv hn htr hlen hb hc (by rw [masks_length, hlen]; simp) (fun L a' w' e' hL h => fin L a' w' e' hL h) ops.size _ a _ e (by simp) (by
      refine Nat.le_trans (List.length_filter_le _ _) (by simp)) (fun i hi => ?_) (Inv.start hn hs.fr hs.defers hs.sat (.inr rfl) (fun j _ => getD_replicate_false _ _))
    rw [getD_replicate_false] at hi; cases hi
end Go.Proofs.Ytaikocplcblnkab
