/- A symbolic way through the code of a call: one operation of a region, whichever were done ahead of it. No condition. -/
import Derived.Test.YthgneojhhocflaaEng4
set_option linter.unusedVariables false
namespace Go.Proofs.Ythgneojhhocflaa
open Go.RowKit

theorem Sat.sub {e : Env} {h h' : Nat → Option HO} {w : World} (hs : Sat e h w) (hh : ∀ id o, h' id = some o → h id = some o) : Sat e h' w :=
  ⟨fun id o ho => hs.holds id o (hh _ _ ho), fun id o ho id' o' ho' hne => hs.apart id o (hh _ _ ho) id' o' (hh _ _ ho') hne⟩
theorem frL_mem {L : Nat → Bool} {fr0 : List RV} {s : Nat} {trs : List Tr} : frL L fr0 s trs = fr0.getD s RV.und ∨ ∃ j u, At trs j u ∧ L j = true ∧ frL L fr0 s trs = u.v := by
  induction trs with
  | nil => exact .inl rfl
  | cons t ts ih =>
    simp only [frL]
    cases hb : (L ts.length && dstIs t s) with
    | true => simp only [Bool.and_eq_true] at hb; exact .inr ⟨ts.length, t, At.cons.2 (.inl ⟨rfl, rfl⟩), hb.1, rfl⟩
    | false =>
      rcases ih with h | ⟨j, u, h1, h2, h3⟩
      · exact .inl h
      · exact .inr ⟨j, u, At.cons.2 (.inr h1), h2, h3⟩
theorem hpL_mem {L : Nat → Bool} {hp0 : Hp} {id : Nat} {o : HO} {trs : List Tr} (h : hpL L hp0 id trs = some o) : hlook hp0 id = some o ∨ ∃ j u, At trs j u ∧ L j = true ∧ hlook u.up id = some o := by
  induction trs with
  | nil => exact .inl h
  | cons t ts ih =>
    simp only [hpL] at h
    cases hb : L ts.length with
    | true =>
      rw [hb] at h
      simp only [cond_true] at h
      split at h
      · rename_i o' ho'
        cases h
        exact .inr ⟨ts.length, t, At.cons.2 (.inl ⟨rfl, rfl⟩), hb, ho'⟩
      · rcases ih h with h | ⟨j, u, h1, h2, h3⟩
        · exact .inl h
        · exact .inr ⟨j, u, At.cons.2 (.inr h1), h2, h3⟩
    | false =>
      rw [hb] at h
      rcases ih h with h | ⟨j, u, h1, h2, h3⟩
      · exact .inl h
      · exact .inr ⟨j, u, At.cons.2 (.inr h1), h2, h3⟩
theorem dstIs_spec {t : Tr} {s : Nat} : dstIs t s = true ↔ t.dst = some s := by
  unfold dstIs
  cases t.dst with
  | none => simp
  | some d => simp only [Option.some.injEq]; exact ⟨Nat.eq_of_beq_eq_true, fun h => by rw [h]; exact Nat.beq_refl s⟩
theorem getD_putL {fr : List RV} {d : Option Nat} {v : RV} {s : Nat} (hb : ∀ x, d = some x → x < fr.length) : (putL fr d v).getD s RV.und = if d = some s then v else fr.getD s RV.und := by
  cases d with
  | none => simp [putL]
  | some x =>
    have := hb x rfl
    simp only [putL, List.getD_eq_getElem?_getD, List.getElem?_set, Option.some.injEq]
    by_cases h : x = s
    · subst h; simp [this]
    · simp [h]
theorem frL_all {P : Program} {ops : Array Oper} {L : Nat → Bool} {fr0 : List RV} {hp0 : Hp} {nx0 s : Nat} : ∀ {ts : List Tr}, TrsOk P ops fr0 hp0 nx0 ts → (∀ j u, At ts j u → u.dst = some s → L j = true) → frL L fr0 s ts = (frT fr0 ts).getD s RV.und := by
  intro ts
  induction ts with
  | nil => intro _ _; rfl
  | cons t ts ih =>
    rintro ⟨⟨o, _, hok⟩, hr⟩ h
    simp only [frL, frT]
    rw [getD_putL (by have := hok.bound; exact this)]
    have hih := ih hr fun j u hj hu => h j u (At.cons.2 (.inr hj)) hu
    cases hd : dstIs t s with
    | true =>
      have := dstIs_spec.1 hd
      rw [h _ t (At.cons.2 (.inl ⟨rfl, rfl⟩)) this, if_pos this]; rfl
    | false =>
      have : t.dst ≠ some s := fun h' => by rw [dstIs_spec.2 h'] at hd; cases hd
      rw [if_neg this, Bool.and_false]
      exact hih
theorem hpL_all {L : Nat → Bool} {hp0 : Hp} {id : Nat} : ∀ {ts : List Tr}, (∀ j u, At ts j u → hlook u.up id ≠ none → L j = true) → hpL L hp0 id ts = hlook (hpT hp0 ts) id := by
  intro ts
  induction ts with
  | nil => intro _; rfl
  | cons t ts ih =>
    intro h
    simp only [hpL, hpT, hlook_append]
    have hih := ih fun j u hj hu => h j u (At.cons.2 (.inr hj)) hu
    cases hu : hlook t.up id with
    | some o => rw [h _ t (At.cons.2 (.inl ⟨rfl, rfl⟩)) (by rw [hu]; simp)]; rfl
    | none => cases L ts.length <;> simp [hih]
theorem frL_lex {P : Program} {ops : Array Oper} {L : Nat → Bool} {fr0 : List RV} {hp0 : Hp} {nx0 s : Nat} {t : Tr} {ts : List Tr} (hr : TrsOk P ops fr0 hp0 nx0 ts) (hi : L ts.length = false) :
    ∀ (pre : List Tr), (∀ j u, At (pre ++ t :: ts) j u → j ≠ ts.length → u.dst = some s → (L j = true ↔ j < ts.length)) → frL L fr0 s (pre ++ t :: ts) = (frT fr0 ts).getD s RV.und := by
  intro pre
  induction pre with
  | nil =>
    intro h
    simp only [List.nil_append, frL, hi, Bool.false_and, cond_false]
    exact frL_all hr fun j u hj hu => (h j u (At.cons.2 (.inr hj)) (Nat.ne_of_lt hj.lt) hu).2 hj.lt
  | cons p pre ih =>
    intro h
    have hlen : (pre ++ t :: ts).length ≠ ts.length := by simp; omega
    have hlen2 : ¬ (pre ++ t :: ts).length < ts.length := by simp; omega
    rw [List.cons_append]
    simp only [frL]
    cases hd : dstIs p s with
    | true =>
      have h1 := h _ p (At.cons.2 (.inl ⟨rfl, rfl⟩)) hlen (dstIs_spec.1 hd)
      have h2 : L (pre ++ t :: ts).length = false := by
        cases hL : L (pre ++ t :: ts).length with
        | false => rfl
        | true => exact absurd (h1.1 hL) hlen2
      rw [h2]
      exact ih fun j u hj => h j u (At.cons.2 (.inr hj))
    | false =>
      rw [Bool.and_false]
      exact ih fun j u hj => h j u (At.cons.2 (.inr hj))
theorem hpL_lex {L : Nat → Bool} {hp0 : Hp} {id : Nat} {t : Tr} {ts : List Tr} (hi : L ts.length = false) :
    ∀ (pre : List Tr), (∀ j u, At (pre ++ t :: ts) j u → j ≠ ts.length → hlook u.up id ≠ none → (L j = true ↔ j < ts.length)) → hpL L hp0 id (pre ++ t :: ts) = hlook (hpT hp0 ts) id := by
  intro pre
  induction pre with
  | nil =>
    intro h
    simp only [List.nil_append, hpL, hi, cond_false]
    exact hpL_all fun j u hj hu => (h j u (At.cons.2 (.inr hj)) (Nat.ne_of_lt hj.lt) hu).2 hj.lt
  | cons p pre ih =>
    intro h
    have hlen : (pre ++ t :: ts).length ≠ ts.length := by simp; omega
    have hlen2 : ¬ (pre ++ t :: ts).length < ts.length := by simp; omega
    have hih := ih fun j u hj => h j u (At.cons.2 (.inr hj))
    rw [List.cons_append]
    simp only [hpL]
    cases hu : hlook p.up id with
    | some o =>
      have h1 := h _ p (At.cons.2 (.inl ⟨rfl, rfl⟩)) hlen (by rw [hu]; simp)
      have h2 : L (pre ++ t :: ts).length = false := by
        cases hL : L (pre ++ t :: ts).length with
        | false => rfl
        | true => exact absurd (h1.1 hL) hlen2
      rw [h2]; exact hih
    | none => cases L (pre ++ t :: ts).length <;> simp [hih]
def setAt (L : Nat → Bool) (i : Nat) : Nat → Bool := fun j => bif Nat.beq j i then true else L j
theorem setAt_ne {L : Nat → Bool} {i j : Nat} (h : j ≠ i) : setAt L i j = L j := by
  unfold setAt
  cases hb : Nat.beq j i with
  | true => exact absurd (Nat.eq_of_beq_eq_true hb) h
  | false => rfl
theorem setAt_same {L : Nat → Bool} {i : Nat} : setAt L i i = true := by unfold setAt; rw [Nat.beq_refl]; rfl
theorem frL_below {L : Nat → Bool} {i : Nat} {fr0 : List RV} {s : Nat} : ∀ (ts : List Tr), ts.length ≤ i → frL (setAt L i) fr0 s ts = frL L fr0 s ts := by
  intro ts
  induction ts with
  | nil => intro _; rfl
  | cons t ts ih =>
    intro h
    simp only [List.length_cons] at h
    simp only [frL]
    rw [setAt_ne (by omega), ih (by omega)]
theorem hpL_below {L : Nat → Bool} {i : Nat} {hp0 : Hp} {id : Nat} : ∀ (ts : List Tr), ts.length ≤ i → hpL (setAt L i) hp0 id ts = hpL L hp0 id ts := by
  intro ts
  induction ts with
  | nil => intro _; rfl
  | cons t ts ih =>
    intro h
    simp only [List.length_cons] at h
    simp only [hpL]
    rw [setAt_ne (by omega), ih (by omega)]
theorem frL_set {L : Nat → Bool} {fr0 : List RV} {s : Nat} {t : Tr} {ts : List Tr} (hi : L ts.length = false) : ∀ (pre : List Tr),
    (t.dst = some s → ∀ j u, At (pre ++ t :: ts) j u → L j = true → ts.length < j → u.dst ≠ some s) →
    frL (setAt L ts.length) fr0 s (pre ++ t :: ts) = if t.dst = some s then t.v else frL L fr0 s (pre ++ t :: ts) := by
  intro pre
  induction pre with
  | nil =>
    intro _
    simp only [List.nil_append, frL, setAt_same, Bool.true_and, hi, Bool.false_and, cond_false]
    rw [frL_below ts (Nat.le_refl _)]
    cases hd : dstIs t s with
    | true => rw [if_pos (dstIs_spec.1 hd)]; rfl
    | false =>
      rw [if_neg (fun h' => by rw [dstIs_spec.2 h'] at hd; cases hd)]; rfl
  | cons p pre ih =>
    intro h
    have hlen : (pre ++ t :: ts).length ≠ ts.length := by simp; omega
    have hlt : ts.length < (pre ++ t :: ts).length := by simp; omega
    have hih := ih fun hd j u hj => h hd j u (At.cons.2 (.inr hj))
    rw [List.cons_append]
    simp only [frL]
    rw [setAt_ne hlen, hih]
    cases hb : (L (pre ++ t :: ts).length && dstIs p s) with
    | false => rfl
    | true =>
      simp only [Bool.and_eq_true] at hb
      have hd := dstIs_spec.1 hb.2
      have hne : ¬ t.dst = some s := fun h' => h h' _ p (At.cons.2 (.inl ⟨rfl, rfl⟩)) hb.1 hlt hd
      simp only [cond_true, if_neg hne]
theorem hpL_set {L : Nat → Bool} {hp0 : Hp} {id : Nat} {t : Tr} {ts : List Tr} (hi : L ts.length = false) : ∀ (pre : List Tr),
    (hlook t.up id ≠ none → ∀ j u, At (pre ++ t :: ts) j u → L j = true → ts.length < j → hlook u.up id = none) →
    hpL (setAt L ts.length) hp0 id (pre ++ t :: ts) = (match hlook t.up id with | some o => some o | none => hpL L hp0 id (pre ++ t :: ts)) := by
  intro pre
  induction pre with
  | nil =>
    intro _
    simp only [List.nil_append, hpL, setAt_same, hi, cond_true, cond_false]
    rw [hpL_below ts (Nat.le_refl _)]
    cases hlook t.up id <;> rfl
  | cons p pre ih =>
    intro h
    have hlen : (pre ++ t :: ts).length ≠ ts.length := by simp; omega
    have hlt : ts.length < (pre ++ t :: ts).length := by simp; omega
    have hih := ih fun hd j u hj => h hd j u (At.cons.2 (.inr hj))
    rw [List.cons_append]
    simp only [hpL]
    rw [setAt_ne hlen, hih]
    cases hL : L (pre ++ t :: ts).length with
    | false => cases hlook t.up id <;> rfl
    | true =>
      cases hu : hlook t.up id with
      | none => rfl
      | some o => rw [h (by rw [hu]; simp) _ p (At.cons.2 (.inl ⟨rfl, rfl⟩)) hL hlt]; rfl
theorem TrsOk.nx {P : Program} {ops : Array Oper} {fr0 : List RV} {hp0 : Hp} {nx0 : Nat} : ∀ {ts : List Tr}, TrsOk P ops fr0 hp0 nx0 ts → ∀ j u, At ts j u → u.nx1 ≤ nxT nx0 ts := by
  intro ts
  induction ts with
  | nil => intro _ j u h; exact absurd h.lt (by simp)
  | cons t ts ih =>
    rintro ⟨⟨o, _, hok⟩, hr⟩ j u h
    rcases At.cons.1 h with ⟨_, rfl⟩ | h
    · exact Nat.le_refl _
    · have h1 := ih hr j u h
      have h2 := (okOut_spec hok.out).mono
      simp only [nxT]; omega

/-- What lies under an old name lies where it lay. -/
theorem hpT_old {P : Program} {ops : Array Oper} {fr0 : List RV} {hp0 : Hp} {nx0 : Nat} (hn : Names fr0 hp0 nx0) : ∀ {ts : List Tr}, TrsOk P ops fr0 hp0 nx0 ts → ∀ id o, id < nx0 → hlook (hpT hp0 ts) id = some o →
    ∃ o0, hlook hp0 id = some o0 ∧ Kle o0 o := by
  intro ts
  induction ts with
  | nil => intro _ id o _ h; exact ⟨o, h, .refl o⟩
  | cons t ts ih =>
    rintro ⟨⟨o', _, hok⟩, hr⟩ id o hid h
    simp only [hpT, hlook_append] at h
    cases hu : hlook t.up id with
    | none => rw [hu] at h; exact ih hr id o hid h
    | some o1 =>
      rw [hu] at h
      simp only [Option.some.injEq] at h
      subst h
      have hout := okOut_spec hok.out
      have hge := (hr.names hn).2
      rcases (hout.up _ (hlook_mem hu)).2.2 with h1 | h1
      · simp only at h1; omega
      · obtain ⟨o2, o3, h2, h3, h4⟩ := hout.W id h1
        rw [hu] at h3
        cases h3
        obtain ⟨o4, h5, h6⟩ := ih hr id _ hid (hlook_restrict h2).2
        exact ⟨o4, h5, h6.trans h4⟩
theorem up_old {P : Program} {ops : Array Oper} {fr0 : List RV} {hp0 : Hp} {nx0 : Nat} (hn : Names fr0 hp0 nx0) {trs : List Tr} (h : TrsOk P ops fr0 hp0 nx0 trs) {j : Nat} {u : Tr} (hj : At trs j u) {id : Nat} {o : HO} (hid : id < nx0) (hu : hlook u.up id = some o) :
    ∃ o0, hlook hp0 id = some o0 ∧ Kle o0 o := by
  obtain ⟨o', pre, ts, rfl, _, _, hok, hts⟩ := h.at hj
  have hout := okOut_spec hok.out
  have hge := (hts.names hn).2
  rcases (hout.up _ (hlook_mem hu)).2.2 with h1 | h1
  · simp only at h1; omega
  · obtain ⟨o2, o3, h2, h3, h4⟩ := hout.W id h1
    rw [hu] at h3
    cases h3
    obtain ⟨o4, h5, h6⟩ := hpT_old hn hts id _ hid (hlook_restrict h2).2
    exact ⟨o4, h5, h6.trans h4⟩
/-- A slot holds what is said of it. -/
def Fits (e : Env) (r : RV) (v : Option Value) : Prop := r.isDead = true ∨ v = some (r.den e)
/-- An old block of one's own that was written. -/
def Wrote (trs : List Tr) (hp0 : Hp) (nx0 : Nat) (e : Env) (b : Nat) : Prop := ∃ j u, At trs j u ∧ ∃ id0 ∈ u.W, id0 < nx0 ∧ ∃ o0, hlook hp0 id0 = some o0 ∧ o0.owns e id0 b
/-- An old block that is read alone. -/
def Reads (hp0 : Hp) (nx0 : Nat) (e : Env) (b : Nat) : Prop := ∃ id0 o0, id0 < nx0 ∧ hlook hp0 id0 = some o0 ∧ o0.foot e id0 b ∧ ¬ o0.owns e id0 b
theorem Wrote.same {trs : List Tr} {hp0 : Hp} {nx0 : Nat} {e e' : Env} {b : Nat} (hs : ∀ id, id < nx0 → e.same e' id) (h : Wrote trs hp0 nx0 e b) : Wrote trs hp0 nx0 e' b := by
  obtain ⟨j, u, h1, id0, h2, h3, o0, h4, h5⟩ := h
  exact ⟨j, u, h1, id0, h2, h3, o0, h4, (HO.owns_same (hs id0 h3)).2 h5⟩
theorem Reads.same {hp0 : Hp} {nx0 : Nat} {e e' : Env} {b : Nat} (hs : ∀ id, id < nx0 → e.same e' id) (h : Reads hp0 nx0 e b) : Reads hp0 nx0 e' b := by
  obtain ⟨id0, o0, h3, h4, h5, h6⟩ := h
  exact ⟨id0, o0, h3, h4, (HO.foot_same (hs id0 h3)).2 h5, fun h => h6 ((HO.owns_same (hs id0 h3)).1 h)⟩
/-- Where the operations of L are done. -/
structure Inv (fr0 : List RV) (hp0 : Hp) (nx0 : Nat) (trs : List Tr) (e0 : Env) (w0 : World) (L : Nat → Bool) (a : Act) (w : World) (e : Env) : Prop where
  size : a.tmps.size = fr0.length
  slot : ∀ s, s < fr0.length → Fits e (frL L fr0 s trs) a.tmps[s]?
  defers : a.defers = []
  sat : Sat e (fun id => hpL L hp0 id trs) w
  agree : ∀ id, id < nx0 ∨ nxT nx0 trs ≤ id → e0.same e id
  os : w.os = w0.os
  tape : w.tape = w0.tape
  output : w.output = w0.output
  grown : w0.heap.size ≤ w.heap.size
  fr : ∀ k, k < w0.heap.size → ¬ Wrote trs hp0 nx0 e0 k → w.heap[k]? = w0.heap[k]?
  own : ∀ id o b, hpL L hp0 id trs = some o → nx0 ≤ id → o.owns e id b → w0.heap.size ≤ b ∨ Wrote trs hp0 nx0 e b
  foot : ∀ id o b, hpL L hp0 id trs = some o → nx0 ≤ id → o.foot e id b → w0.heap.size ≤ b ∨ Wrote trs hp0 nx0 e b ∨ Reads hp0 nx0 e b

/-- What t may meet of the operations that are done. -/
structure Apart (trs : List Tr) (L : Nat → Bool) (i : Nat) (t : Tr) : Prop where
  looks : ∀ j u, At trs j u → j ≠ i → ∀ d, u.dst = some d → d ∈ t.looks → (L j = true ↔ j < i)
  reach : ∀ j u, At trs j u → j ≠ i → ∀ id ∈ t.R, hlook u.up id ≠ none → (L j = true ↔ j < i)
  dst : ∀ j u, At trs j u → L j = true → i < j → ∀ d, t.dst = some d → u.dst ≠ some d
  up : ∀ j u, At trs j u → L j = true → i < j → ∀ id, hlook t.up id ≠ none → hlook u.up id = none
  v : ∀ j u, At trs j u → L j = true → i < j → ∀ id ∈ u.v.ids, id < t.nx0 ∨ t.nx1 ≤ id
  ups : ∀ j u, At trs j u → L j = true → i < j → ∀ p ∈ u.up, (p.1 < t.nx0 ∨ t.nx1 ≤ p.1) ∧ ∀ id ∈ p.2.ids, id < t.nx0 ∨ t.nx1 ≤ id

/-- The blocks behind one operation. -/
theorem sat_next {e e' : Env} {w w' : World} {h : Nat → Option HO} {hR : Nat → Option HO} {nx : Nat} {out : Out} (hs : Sat e h w) (hsub : ∀ id o, hR id = some o → h id = some o)
    (hp : PostOp e e' hR nx out w w') (hW : ∀ id ∈ out.W, ∃ o0 o, hR id = some o0 ∧ hlook out.up id = some o ∧ Kle o0 o)
    (hsame : ∀ id o, h id = some o → e.same e' id ∧ ∀ i ∈ o.ids, e.same e' i) :
    Sat e' (fun id => match hlook out.up id with | some o => some o | none => h id) w' := by
  have old : ∀ id o, h id = some o → hlook out.up id = none → ∀ b, o.foot e id b → w'.heap[b]? = w.heap[b]? := by
    intro id o ho hn b hf
    refine hp.fr b (HO.foot_lt (hs.holds _ _ ho) hf) fun i hi o9 h9 hb => ?_
    obtain ⟨o0, o1, h1, h2, _⟩ := hW i hi
    have hne : i ≠ id := fun h' => by rw [h', hn] at h2; cases h2
    exact hs.apart i o9 (hsub _ _ h9) id o ho hne b hb hf
  refine ⟨fun id o ho => ?_, fun id o ho id' o' ho' hne b hb hf => ?_⟩
  · cases hu : hlook out.up id with
    | some o1 =>
      simp only [hu, Option.some.injEq] at ho
      subst ho
      exact hp.sat.holds _ _ hu
    | none =>
      simp only [hu] at ho
      obtain ⟨s1, s2⟩ := hsame id o ho
      exact HO.holds_next (hs.holds _ _ ho) s1 s2 (old id o ho hu) hp.size
  · cases hu : hlook out.up id with
    | some o1 =>
      simp only [hu, Option.some.injEq] at ho
      subst ho
      cases hu' : hlook out.up id' with
      | some o2 =>
        simp only [hu', Option.some.injEq] at ho'
        subst ho'
        exact hp.sat.apart _ _ hu _ _ hu' hne b hb hf
      | none =>
        simp only [hu'] at ho'
        obtain ⟨s1, s2⟩ := hsame id' o' ho'
        rw [HO.foot_same s1] at hf
        have hlt := HO.foot_lt (hs.holds _ _ ho') hf
        rcases hp.own id _ b hu hb with h1 | ⟨id0, h1, o0, h2, h3⟩
        · omega
        · obtain ⟨o3, o4, g1, g2, _⟩ := hW id0 h1
          have hne' : id0 ≠ id' := fun h' => by rw [h', hu'] at g2; cases g2
          exact hs.apart id0 o0 (hsub _ _ h2) id' o' ho' hne' b h3 hf
    | none =>
      simp only [hu] at ho
      obtain ⟨s1, s2⟩ := hsame id _ ho
      rw [HO.owns_same s1] at hb
      have hlt := HO.foot_lt (hs.holds _ _ ho) (HO.owns_foot hb)
      cases hu' : hlook out.up id' with
      | some o2 =>
        simp only [hu', Option.some.injEq] at ho'
        subst ho'
        rcases hp.foot id' _ b hu' hf with h1 | ⟨id0, h1, o0, h2, h3⟩ | ⟨id0, o0, h2, h3, h4⟩
        · omega
        · obtain ⟨o3, o4, g1, g2, _⟩ := hW id0 h1
          have hne' : id ≠ id0 := fun h' => by rw [← h', hu] at g2; cases g2
          exact hs.apart id o ho id0 o0 (hsub _ _ h2) hne' b hb (HO.owns_foot h3)
        · by_cases hid : id = id0
          · subst hid
            rw [hsub _ _ h2] at ho
            cases ho
            exact h4 hb
          · exact hs.apart id o ho id0 o0 (hsub _ _ h2) hid b hb h3
      | none =>
        simp only [hu'] at ho'
        obtain ⟨s3, s4⟩ := hsame id' _ ho'
        rw [HO.foot_same s3] at hf
        exact hs.apart id o ho id' o' ho' hne b hb hf
end Go.Proofs.Ythgneojhhocflaa
