/- A symbolic way through the code of a call: a region as a whole. No condition. -/
import Derived.Test.YthgneojhhocflaaEng5
set_option linter.unusedVariables false
namespace Go.Proofs.Ythgneojhhocflaa
open Go.RowKit

section
variable {P : Program} {ops : Array Oper} {fr0 : List RV} {hp0 : Hp} {nx0 : Nat} {trs : List Tr} {e0 : Env} {w0 : World} {L : Nat → Bool} {a : Act} {w : World} {e : Env} {Q : Exit → Act → World → Prop}

theorem tmps_put {d : Option Nat} {v : Value} {s : Nat} : (a.put d v).tmps[s]? = if d = some s ∧ s < a.tmps.size then some v else a.tmps[s]? := by
  cases d with
  | none => simp [Act.put]
  | some x =>
    simp only [Act.put, Array.getElem?_setIfInBounds, Option.some.injEq]
    by_cases h : x = s
    · subst h
      by_cases hx : x < a.tmps.size <;> simp [hx]
    · simp [h]
theorem put_tmps_size {d : Option Nat} {v : Value} : (a.put d v).tmps.size = a.tmps.size := by cases d <;> simp [Act.put]
theorem put_defs {d : Option Nat} {v : Value} : (a.put d v).defers = a.defers := by cases d <;> rfl

theorem step_op (hn : Names fr0 hp0 nx0) (htr : TrsOk P ops fr0 hp0 nx0 trs) {i : Nat} {t : Tr} (hat : At trs i t) (hi : L i = false) (hap : Apart trs L i t)
    (hinv : Inv fr0 hp0 nx0 trs e0 w0 L a w e) {K : Act → World → Prop} (hK : ∀ a' w' e', Inv fr0 hp0 nx0 trs e0 w0 (setAt L i) a' w' e' → K a' w') : wpOp P ops Q i K a w := by
  obtain ⟨o, pre, ts, rfl, rfl, ho, hok, hts⟩ := htr.at hat
  obtain ⟨⟨nfr, nhp⟩, nge⟩ := hts.names hn
  have hout := okOut_spec hok.out
  have hnx := hok.nx0
  have hmono := hout.mono
  -- the slots and blocks that it looks at
  have hslot : ∀ s, s ∈ t.looks → s < fr0.length → Fits e ((frT fr0 ts).getD s RV.und) a.tmps[s]? := by
    intro s hs hlt
    have := hinv.slot s hlt
    rw [frL_lex hts hi pre fun j u hj hne hd => hap.looks j u hj hne s hd hs] at this
    exact this
  have hslot' : ∀ s, s ∈ t.looks → ((frT fr0 ts).getD s RV.und).isDead = false → a.tmps.getD s undef = ((frT fr0 ts).getD s RV.und).den e := by
    intro s hs hd
    by_cases hlt : s < fr0.length
    · rcases hslot s hs hlt with h | h
      · rw [hd] at h; cases h
      · rw [Array.getD_eq_getD_getElem?, h]; rfl
    · rw [Array.getD_eq_getD_getElem?, Array.getElem?_eq_none (by rw [hinv.size]; omega), List.getD_eq_getElem?_getD, List.getElem?_eq_none (by rw [frT_length]; omega)]
      rfl
  have hblk : ∀ id ob, hlook (restrict (hpT hp0 ts) t.R) id = some ob → hpL L hp0 id (pre ++ t :: ts) = some ob := by
    intro id ob h
    obtain ⟨h1, h2⟩ := hlook_restrict h
    rw [hpL_lex hi pre fun j u hj hne hu => hap.reach j u hj hne id h1 hu, h2]
  have hwant : ∀ d, GuardIs ops o (frT fr0 ts) d → Region.wanted o (yielded ops a.tmps) = d := by
    intro d hg
    unfold GuardIs at hg
    unfold Region.wanted
    cases hgd : o.guard with
    | none => rw [hgd] at hg; exact hg.symm
    | some gw =>
      obtain ⟨g, want⟩ := gw
      rw [hgd] at hg
      rcases hg with ⟨s, b, k, h1, h2, rfl⟩ | ⟨s, h1, h2, rfl⟩
      · have hs : s ∈ t.looks := by rw [hok.looks]; simp [looksOf, hgd, h1]
        have hlt : s < fr0.length := by
          rcases Nat.lt_or_ge s fr0.length with h | h
          · exact h
          · rw [List.getD_eq_getElem?_getD, List.getElem?_eq_none (by rw [frT_length]; exact h)] at h2
            simp only [Option.getD_none, RV.und, RV.sv.injEq, SV.one.injEq, CV.val.injEq] at h2
            exact absurd h2.2 (by unfold undef; simp)
        have h3 := (hslot s hs hlt).resolve_left (by rw [h2]; simp [RV.isDead])
        rw [h2] at h3
        have h4 : yielded ops a.tmps g = some b := by
          unfold yielded
          rw [h1]
          simp only [Option.bind_some, h3]
          rfl
        simp only [h4]
        cases b <;> cases want <;> rfl
      · have hs : s ∈ t.looks := by rw [hok.looks]; simp [looksOf, hgd, h1]
        have h3 := hslot' s hs (by rw [h2]; rfl)
        rw [h2] at h3
        have h4 : yielded ops a.tmps g = none := by
          unfold yielded
          rw [h1]
          simp only [Option.bind_some]
          rw [Array.getD_eq_getD_getElem?] at h3
          cases h5 : a.tmps[s]? with
          | none => rfl
          | some v =>
            rw [h5] at h3
            simp only [Option.getD_some] at h3
            subst h3
            rfl
        simp only [h4]
        rfl
  have hL' : ∀ id, hpL (setAt L ts.length) hp0 id (pre ++ t :: ts) = (match hlook t.up id with | some o => some o | none => hpL L hp0 id (pre ++ t :: ts)) :=
    fun id => hpL_set hi pre fun hu j u hj hLj hlt => hap.up j u hj hLj hlt id hu
  have hF' : ∀ s, frL (setAt L ts.length) fr0 s (pre ++ t :: ts) = if t.dst = some s then t.v else frL L fr0 s (pre ++ t :: ts) :=
    fun s => frL_set hi pre fun hd j u hj hLj hlt => hap.dst j u hj hLj hlt s hd
  -- what is done ahead names nothing of its new names
  have hbelow : ∀ j u, At (pre ++ t :: ts) j u → L j = true → j < ts.length → (∀ id ∈ u.v.ids, id < t.nx0) ∧ ∀ p ∈ u.up, p.1 < t.nx0 ∧ ∀ id ∈ p.2.ids, id < t.nx0 := by
    intro j u hj _ hlt
    have hat' : At ts j u := by
      obtain ⟨u', hu'⟩ := At.of_lt hlt
      have : At (pre ++ t :: ts) j u' := by
        obtain ⟨p1, t1, rfl, h2⟩ := hu'
        exact ⟨pre ++ t :: p1, t1, by simp, h2⟩
      rw [hj.one this]; exact hu'
    have h1 := hts.nx j u hat'
    obtain ⟨_, _, _, _, _, _, hok', _⟩ := hts.at hat'
    have ho' := okOut_spec hok'.out
    rw [hnx]
    exact ⟨fun id hid => by have := ho'.v id hid; omega, fun p hp => ⟨by have := (ho'.up p hp).1; omega, fun id hid => by have := (ho'.up p hp).2.1 id hid; omega⟩⟩
  have hvs : ∀ s, ∀ id ∈ (frL L fr0 s (pre ++ t :: ts)).ids, id < t.nx0 ∨ t.nx1 ≤ id := by
    intro s id hid
    rcases frL_mem (L := L) (fr0 := fr0) (s := s) (trs := pre ++ t :: ts) with h | ⟨j, u, h1, h2, h3⟩
    · rw [h] at hid
      have := getD_ids hn.fr hid
      left; rw [hnx]; omega
    · rw [h3] at hid
      have hne : j ≠ ts.length := fun h' => by rw [h', hi] at h2; cases h2
      rcases Nat.lt_or_gt_of_ne hne with h | h
      · exact .inl ((hbelow j u h1 h2 h).1 id hid)
      · exact hap.v j u h1 h2 h id hid
  have hus : ∀ id ob, hpL L hp0 id (pre ++ t :: ts) = some ob → (id < t.nx0 ∨ t.nx1 ≤ id) ∧ ∀ i ∈ ob.ids, i < t.nx0 ∨ t.nx1 ≤ i := by
    intro id ob h
    rcases hpL_mem h with h | ⟨j, u, h1, h2, h3⟩
    · have := hn.hp id ob h
      exact ⟨by omega, fun i hi => by have := this.2 i hi; omega⟩
    · have hne : j ≠ ts.length := fun h' => by rw [h', hi] at h2; cases h2
      rcases Nat.lt_or_gt_of_ne hne with h' | h'
      · have := (hbelow j u h1 h2 h').2 _ (hlook_mem h3)
        exact ⟨.inl this.1, fun i hi => .inl (this.2 i hi)⟩
      · exact hap.ups j u h1 h2 h' _ (hlook_mem h3)
  unfold wpOp
  simp only [ho]
  rcases hok.does with ⟨hg, hlive, out, hop, hden, hup, hnx1, hW⟩ | ⟨hg, hv, hup, hW, hnx1⟩
  · rw [if_pos (hwant true hg)]
    refine .inl ?_
    have hgetids : ∀ x ∈ o.op.operands, ∀ id ∈ (opnd (frT fr0 ts) x).ids, id < nxT nx0 ts := by
      intro x _ id hid
      cases x with
      | tmp s => exact getD_ids nfr hid
      | const v => simp only [opnd, RV.ids_ofVal] at hid; cases hid
      | global g => simp [opnd, RV.ids, SV.ids, CV.ids] at hid
      | func f => simp [opnd, RV.ids, SV.ids, CV.ids] at hid
    refine hop hgetids nhp e a w (fun x hx => ?_) (hinv.sat.sub hblk) K Q fun e' w' hpost => ?_
    · cases x with
      | tmp s => exact hslot' s (by rw [hok.looks]; exact List.mem_append_left _ (List.mem_filterMap.2 ⟨.tmp s, by simpa using hx, rfl⟩)) (hlive _ hx)
      | const v => simp only [Act.eval, opnd, RV.den_ofVal]
      | global g => rfl
      | func f => rfl
    · have hagree : ∀ id, id < t.nx0 ∨ t.nx1 ≤ id → e.same e' id := by
        intro id h
        exact hpost.agree id (by
          rcases h with h | h
          · left; omega
          · right; omega)
      have hsat := sat_next hinv.sat hblk hpost (by rw [← hW, ← hup]; exact hout.W) (fun id ob h => ⟨hagree id (hus id ob h).1, fun i hi => hagree i ((hus id ob h).2 i hi)⟩)
      rw [← hup] at hsat
      have hlow : ∀ id, id < nx0 → e.same e' id := fun id hid => hagree id (.inl (by rw [hnx]; omega))
      -- what an operation met of old blocks
      have ownR : ∀ id0 o0 b, hlook (restrict (hpT hp0 ts) t.R) id0 = some o0 → id0 ∈ t.W → o0.owns e id0 b → w0.heap.size ≤ b ∨ Wrote (pre ++ t :: ts) hp0 nx0 e b := by
        intro id0 o0 b h1 h2 h3
        by_cases h4 : id0 < nx0
        · obtain ⟨oS, h5, h6⟩ := hpT_old hn hts id0 o0 h4 (hlook_restrict h1).2
          exact .inr ⟨_, t, hat, id0, h2, h4, oS, h5, h6.owns h3⟩
        · exact hinv.own id0 o0 b (hblk _ _ h1) (by omega) h3
      refine hK _ _ e' ⟨by rw [put_tmps_size]; exact hinv.size, fun s hs => ?_, by rw [put_defs]; exact hinv.defers, ?_, fun id hid => ?_, hpost.os.trans hinv.os, hpost.tape.trans hinv.tape, hpost.output.trans hinv.output, Nat.le_trans hinv.grown hpost.size, ?_, ?_, ?_⟩
      · rw [tmps_put, hF' s, hinv.size, ← hok.dst, ← hden]
        by_cases hd : t.dst = some s
        · rw [if_pos hd, if_pos ⟨hd, hs⟩]; exact .inr rfl
        · rw [if_neg hd, if_neg (fun h => hd h.1)]
          rcases hinv.slot s hs with h | h
          · exact .inl h
          · exact .inr (by rw [h, RV.den_same _ fun id hid => hagree id (hvs s id hid)])
      · refine hsat.sub fun id ob h => ?_
        have h' : hpL (setAt L ts.length) hp0 id (pre ++ t :: ts) = some ob := h
        rw [hL'] at h'
        exact h'
      · have h1 := hinv.agree id hid
        have hle := htr.nx _ _ hat
        have h2 := hagree id (by
          rcases hid with h | h
          · left; omega
          · right; omega)
        exact h1.trans h2
      · intro k hk hne
        rw [hpost.fr k (Nat.lt_of_lt_of_le hk hinv.grown) fun id hid o9 h9 hb => ?_]
        · exact hinv.fr k hk hne
        · rw [← hW] at hid
          rcases ownR id o9 k h9 hid hb with h | h
          · omega
          · exact hne (h.same fun id hid => (hinv.agree id (.inl hid)).symm)
      · intro id ob b h hid hf
        rw [hL'] at h
        cases hu : hlook t.up id with
        | none =>
          rw [hu] at h
          simp only at h
          rw [HO.owns_same (hagree id (hus id _ h).1)] at hf
          exact (hinv.own id ob b h hid hf).imp (fun h => h) (Wrote.same hlow)
        | some o1 =>
          rw [hu] at h
          simp only [Option.some.injEq] at h
          subst h
          rcases hpost.own id _ b (by rw [← hup]; exact hu) hf with h1 | ⟨id0, h1, o0, h2, h3⟩
          · exact .inl (Nat.le_trans hinv.grown h1)
          · exact (ownR id0 o0 b h2 (by rw [hW]; exact h1) h3).imp (fun h => h) (Wrote.same hlow)
      · intro id ob b h hid hf
        rw [hL'] at h
        cases hu : hlook t.up id with
        | none =>
          rw [hu] at h
          simp only at h
          rw [HO.foot_same (hagree id (hus id _ h).1)] at hf
          exact (hinv.foot id ob b h hid hf).imp (fun h => h) (Or.imp (Wrote.same hlow) (Reads.same hlow))
        | some o1 =>
          rw [hu] at h
          simp only [Option.some.injEq] at h
          subst h
          rcases hpost.foot id _ b (by rw [← hup]; exact hu) hf with h1 | ⟨id0, h1, o0, h2, h3⟩ | ⟨id0, o0, h2, h3, h4⟩
          · exact .inl (Nat.le_trans hinv.grown h1)
          · exact (ownR id0 o0 b h2 (by rw [hW]; exact h1) h3).imp (fun h => h) fun h => .inl (h.same hlow)
          · by_cases h5 : id0 < nx0
            · obtain ⟨oS, h6, h7⟩ := hpT_old hn hts id0 o0 h5 (hlook_restrict h2).2
              have h8 := h7 e id0 b h3
              exact .inr (.inr (Reads.same hlow ⟨id0, oS, h5, h6, h8.1, fun h => h4 (h8.2.2 h)⟩))
            · exact (hinv.foot id0 o0 b (hblk _ _ h2) (by omega) h3).imp (fun h => h) (Or.imp (Wrote.same hlow) (Reads.same hlow))
  · rw [if_neg (by rw [hwant false hg]; simp)]
    have hup' : ∀ id, hlook t.up id = none := fun id => by rw [hup]; rfl
    refine hK _ _ e ⟨by rw [put_tmps_size]; exact hinv.size, fun s hs => ?_, by rw [put_defs]; exact hinv.defers, ?_, hinv.agree, hinv.os, hinv.tape, hinv.output, hinv.grown, hinv.fr, ?_, ?_⟩
    · rw [tmps_put, hF' s, hinv.size, ← hok.dst, hv]
      by_cases hd : t.dst = some s
      · rw [if_pos hd, if_pos ⟨hd, hs⟩]; exact .inr rfl
      · rw [if_neg hd, if_neg (fun h => hd h.1)]; exact hinv.slot s hs
    · refine hinv.sat.sub fun id ob h => ?_
      have h' : hpL (setAt L ts.length) hp0 id (pre ++ t :: ts) = some ob := h
      rw [hL', hup'] at h'
      exact h'
    · intro id ob b h hid hf
      rw [hL', hup'] at h
      exact hinv.own id ob b h hid hf
    · intro id ob b h hid hf
      rw [hL', hup'] at h
      exact hinv.foot id ob b h hid hf
end

/-! ### All of them, in the text's order -/
def Done (n : Nat) : Nat → Bool := fun j => Nat.blt j n
theorem Done.set (n : Nat) : setAt (Done n) n = Done (n + 1) := by
  funext j
  by_cases h : j = n
  · subst h; rw [setAt_same]; simp [Done, Nat.blt]
  · rw [setAt_ne h]
    unfold Done
    by_cases h' : j < n
    · rw [show Nat.blt j n = true from Nat.ble_eq_true_of_le h', show Nat.blt j (n + 1) = true from Nat.ble_eq_true_of_le (by omega)]
    · cases h1 : Nat.blt j n with
      | true => exact absurd (Nat.le_of_ble_eq_true h1) (by omega)
      | false =>
        cases h2 : Nat.blt j (n + 1) with
        | true => exact absurd (Nat.le_of_ble_eq_true h2) (by omega)
        | false => rfl
theorem Done.iff {n j : Nat} : Done n j = true ↔ j < n := ⟨fun h => Nat.le_of_ble_eq_true h, fun h => Nat.ble_eq_true_of_le h⟩
section
variable {P : Program} {ops : Array Oper} {fr0 : List RV} {hp0 : Hp} {nx0 : Nat} {trs : List Tr} {e0 : Env} {w0 : World} {Q : Exit → Act → World → Prop}
theorem Inv.start {a : Act} (hn : Names fr0 hp0 nx0) (hz : a.tmps.size = fr0.length) (ht : ∀ (s : Nat) r, fr0[s]? = some r → Fits e0 r a.tmps[s]?) (hd : a.defers = []) (hs : Sat e0 (hlook hp0) w0) {w : World} (hw : w = w0 ∨ w = { w0 with drawn := w0.drawn + 1 })
    {L : Nat → Bool} (hL : ∀ j, j < trs.length → L j = false) : Inv fr0 hp0 nx0 trs e0 w0 L a w e0 := by
  have h1 : ∀ s, ∀ ts : List Tr, ts.length ≤ trs.length → frL L fr0 s ts = fr0.getD s RV.und := by
    intro s ts
    induction ts with
    | nil => intro _; rfl
    | cons t ts ih =>
      intro h
      simp only [List.length_cons] at h
      simp only [frL, hL ts.length (by omega), Bool.false_and, cond_false]
      exact ih (by omega)
  have h2 : ∀ id, ∀ ts : List Tr, ts.length ≤ trs.length → hpL L hp0 id ts = hlook hp0 id := by
    intro id ts
    induction ts with
    | nil => intro _; rfl
    | cons t ts ih =>
      intro h
      simp only [List.length_cons] at h
      simp only [hpL, hL ts.length (by omega), cond_false]
      exact ih (by omega)
  have hheap : w.heap = w0.heap := by rcases hw with rfl | rfl <;> rfl
  have hsat : Sat e0 (hlook hp0) w := by
    rcases hw with rfl | rfl
    · exact hs
    · exact ⟨fun id o h => HO.holds_next (hs.holds id o h) (.refl _ _) (fun _ _ => .refl _ _) (fun _ _ => rfl) (Nat.le_refl _), hs.apart⟩
  refine ⟨hz, fun s h => ?_, hd, hsat.sub fun id o h => ?_, fun _ _ => .refl _ _, by rcases hw with rfl | rfl <;> rfl, by rcases hw with rfl | rfl <;> rfl, by rcases hw with rfl | rfl <;> rfl, by rw [hheap]; exact Nat.le_refl _, fun k _ _ => by rw [hheap], fun id ob b h hid => ?_, fun id ob b h hid => ?_⟩
  · rw [h1 s trs (Nat.le_refl _)]
    have := ht s fr0[s] (List.getElem?_eq_getElem h)
    rwa [List.getD_eq_getElem?_getD, List.getElem?_eq_getElem h]
  · have h' : hpL L hp0 id trs = some o := h
    rwa [h2 id trs (Nat.le_refl _)] at h'
  all_goals
    rw [h2 id trs (Nat.le_refl _)] at h
    have := (hn.hp id ob h).1
    omega
theorem wpOps_range (hn : Names fr0 hp0 nx0) (htr : TrsOk P ops fr0 hp0 nx0 trs) (hlen : trs.length = ops.size) (hQ : ∀ a w e, Inv fr0 hp0 nx0 trs e0 w0 (Done ops.size) a w e → Q .normal a w) :
    ∀ (m k : Nat) (a : Act) (w : World) (e : Env), k + m = ops.size → Inv fr0 hp0 nx0 trs e0 w0 (Done k) a w e → wpOps P ops Q (List.range' k m) a w := by
  intro m
  induction m with
  | zero => intro k a w e hk h; obtain rfl : k = ops.size := by omega
            exact hQ a w e h
  | succ m ih =>
    intro k a w e hk h
    rw [List.range'_succ, wpOps_cons]
    obtain ⟨t, ht⟩ := At.of_lt (trs := trs) (j := k) (by omega)
    refine step_op hn htr ht (by cases hd : Done k k with | false => rfl | true => exact absurd (Done.iff.1 hd) (by omega)) ⟨fun j u _ _ d _ _ => Done.iff, fun j u _ _ id _ _ => Done.iff, ?_, ?_, ?_, ?_⟩ h fun a' w' e' h' => ih (k + 1) a' w' e' (by omega) (by rw [← Done.set]; exact h')
    all_goals
      intro j u _ hL hlt
      exact absurd (Done.iff.1 hL) (by omega)
end
end Go.Proofs.Ythgneojhhocflaa
