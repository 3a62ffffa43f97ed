/- Eng4, Eng5, Eng6, Eng7, Eng8, laid together. No condition. -/
import Derived.Test.YtonlllijdbjkaaaEngA
import Derived.Orders
import Derived.StillTail
import Derived.LoopN
import Derived.Scope
/- A symbolic way through the code of a call: a region, in the text's order or in whatever order its edges allow. No condition. -/
set_option linter.unusedVariables false
namespace Go.Proofs.Ytonlllijdbjkaaa
open Go.RowKit

/-- What one operation did, in the text's order. -/
structure Tr where
  dst : Option Nat
  v : RV
  up : Hp
  W : List Nat
  R : List Nat
  nx0 : Nat
  nx1 : Nat
  looks : List Nat

def opnd (fr : List RV) : Operand → RV
  | .tmp t => fr.getD t RV.und
  | .const v => RV.ofVal true v
  | .global g => .sv (.one (.val true (.pointer (some ⟨g, 0, none⟩))))
  | .func f => .sv (.one (.fn f []))
def putL (fr : List RV) (d : Option Nat) (v : RV) : List RV := match d with | some d => fr.set d v | none => fr
def frT (fr0 : List RV) : List Tr → List RV
  | [] => fr0
  | t :: ts => putL (frT fr0 ts) t.dst t.v
def hpT (hp0 : Hp) : List Tr → Hp
  | [] => hp0
  | t :: ts => t.up ++ hpT hp0 ts
def nxT (nx0 : Nat) : List Tr → Nat
  | [] => nx0
  | t :: _ => t.nx1
def dstIs (t : Tr) (s : Nat) : Bool := match t.dst with | some d => Nat.beq d s | none => false
def frL (L : Nat → Bool) (fr0 : List RV) (s : Nat) : List Tr → RV
  | [] => fr0.getD s RV.und
  | t :: ts => bif L ts.length && dstIs t s then t.v else frL L fr0 s ts
def hpL (L : Nat → Bool) (hp0 : Hp) (id : Nat) : List Tr → Option HO
  | [] => hlook hp0 id
  | t :: ts => bif L ts.length then (match hlook t.up id with | some o => some o | none => hpL L hp0 id ts) else hpL L hp0 id ts
/-- The j-th operation (from the first on) did t. -/
def At (trs : List Tr) (j : Nat) (t : Tr) : Prop := ∃ pre ts, trs = pre ++ t :: ts ∧ ts.length = j
theorem At.cons {t u : Tr} {ts : List Tr} {j : Nat} : At (t :: ts) j u ↔ (j = ts.length ∧ u = t) ∨ At ts j u := by
  constructor
  · rintro ⟨pre, r, h, hl⟩
    cases pre with
    | nil => simp only [List.nil_append, List.cons.injEq] at h; obtain ⟨rfl, rfl⟩ := h; exact .inl ⟨hl.symm, rfl⟩
    | cons p pre => simp only [List.cons_append, List.cons.injEq] at h; obtain ⟨rfl, rfl⟩ := h; exact .inr ⟨pre, r, rfl, hl⟩
  · rintro (⟨rfl, rfl⟩ | ⟨pre, r, rfl, hl⟩)
    · exact ⟨[], _, rfl, rfl⟩
    · exact ⟨t :: pre, r, rfl, hl⟩
theorem At.lt {trs : List Tr} {j : Nat} {t : Tr} (h : At trs j t) : j < trs.length := by
  obtain ⟨pre, ts, rfl, rfl⟩ := h; simp; omega
theorem At.one {trs : List Tr} {j : Nat} {t u : Tr} (h : At trs j t) (h' : At trs j u) : t = u := by
  induction trs with
  | nil => obtain ⟨pre, ts, h, _⟩ := h; simp at h
  | cons p trs ih =>
    rcases At.cons.1 h with ⟨h1, rfl⟩ | h1 <;> rcases At.cons.1 h' with ⟨h2, rfl⟩ | h2
    · rfl
    · have := h2.lt; omega
    · have := h1.lt; omega
    · exact ih h1 h2
theorem At.of_lt {trs : List Tr} {j : Nat} (h : j < trs.length) : ∃ t, At trs j t := by
  induction trs with
  | nil => simp at h
  | cons p trs ih =>
    by_cases hj : j = trs.length
    · exact ⟨p, At.cons.2 (.inl ⟨hj, rfl⟩)⟩
    · obtain ⟨t, ht⟩ := ih (by simp at h; omega)
      exact ⟨t, At.cons.2 (.inr ht)⟩
def kleAt (hpR up : Hp) (id : Nat) : Bool := match hlook hpR id, hlook up id with | some o0, some o => kle o0 o | _, _ => false
def okOut (hpR : Hp) (nx : Nat) (v : RV) (up : Hp) (nx1 : Nat) (W : List Nat) : Bool :=
  Nat.ble nx nx1 && v.ids.all (fun i => Nat.blt i nx1) &&
  up.all (fun p => Nat.blt p.1 nx1 && p.2.ids.all (fun i => Nat.blt i nx1) && (Nat.ble nx p.1 || W.any (Nat.beq p.1))) &&
  W.all (fun id => kleAt hpR up id)
def looksOf (ops : Array Oper) (o : Oper) : List Nat :=
  (o.op.operands.toList.filterMap fun | .tmp t => some t | _ => none) ++
  (match o.guard with
   | some (g, _) => ((ops[g]?).bind (·.dst)).toList
   | none => [])
def GuardIs (ops : Array Oper) (o : Oper) (fr : List RV) (d : Bool) : Prop :=
  match o.guard with
  | none => d = true
  | some (g, want) => (∃ s b k, (ops[g]?).bind (·.dst) = some s ∧ fr.getD s RV.und = .sv (.one (.val k (.bool b))) ∧ d = (b == want)) ∨
    ∃ s, (ops[g]?).bind (·.dst) = some s ∧ fr.getD s RV.und = RV.und ∧ d = false
/-- The operation o does t where the slots hold fr, the blocks hp. -/
structure TrOk (P : Program) (ops : Array Oper) (o : Oper) (fr : List RV) (hp : Hp) (nx : Nat) (t : Tr) : Prop where
  nx0 : t.nx0 = nx
  dst : t.dst = o.dst
  looks : t.looks = looksOf ops o
  bound : ∀ d, t.dst = some d → d < fr.length
  out : okOut (restrict hp t.R) nx t.v t.up t.nx1 t.W = true
  does : (GuardIs ops o fr true ∧ (∀ x ∈ o.op.operands, (opnd fr x).isDead = false) ∧ ∃ out : Out, ((∀ x ∈ o.op.operands, ∀ id ∈ (opnd fr x).ids, id < nx) → (∀ id ob, hlook hp id = some ob → id < nx ∧ ∀ i ∈ ob.ids, i < nx) → OpOk P o (opnd fr) (restrict hp t.R) nx out) ∧ (∀ e, t.v.den e = out.v.den e) ∧ t.up = out.up ∧ out.nx ≤ t.nx1 ∧ t.W = out.W) ∨
    (GuardIs ops o fr false ∧ t.v = RV.und ∧ t.up = [] ∧ t.W = [] ∧ t.nx1 = nx)
def TrsOk (P : Program) (ops : Array Oper) (fr0 : List RV) (hp0 : Hp) (nx0 : Nat) : List Tr → Prop
  | [] => True
  | t :: ts => (∃ o, ops[ts.length]? = some o ∧ TrOk P ops o (frT fr0 ts) (hpT hp0 ts) (nxT nx0 ts) t) ∧ TrsOk P ops fr0 hp0 nx0 ts
theorem TrsOk.at {P : Program} {ops : Array Oper} {fr0 : List RV} {hp0 : Hp} {nx0 : Nat} {trs : List Tr} (h : TrsOk P ops fr0 hp0 nx0 trs) {j : Nat} {t : Tr} (ht : At trs j t) :
    ∃ o pre ts, trs = pre ++ t :: ts ∧ ts.length = j ∧ ops[j]? = some o ∧ TrOk P ops o (frT fr0 ts) (hpT hp0 ts) (nxT nx0 ts) t ∧ TrsOk P ops fr0 hp0 nx0 ts := by
  induction trs with
  | nil => exact absurd ht.lt (by simp)
  | cons p trs ih =>
    rcases At.cons.1 ht with ⟨rfl, rfl⟩ | h1
    · obtain ⟨⟨o, ho, hok⟩, hr⟩ := h
      exact ⟨o, [], trs, rfl, rfl, ho, hok, hr⟩
    · obtain ⟨o, pre, ts, rfl, h2, h3, h4, h5⟩ := ih h.2 h1
      exact ⟨o, p :: pre, ts, rfl, h2, h3, h4, h5⟩
theorem putL_length (fr : List RV) (d : Option Nat) (v : RV) : (putL fr d v).length = fr.length := by
  cases d <;> simp [putL]
theorem frT_length (fr0 : List RV) (ts : List Tr) : (frT fr0 ts).length = fr0.length := by
  induction ts with
  | nil => rfl
  | cons t ts ih => simp [frT, putL_length, ih]
/-- Of what was done ahead: the names are old ones, and each step goes on with the names. -/
structure Names (fr0 : List RV) (hp0 : Hp) (nx0 : Nat) : Prop where
  fr : ∀ r ∈ fr0, ∀ i ∈ r.ids, i < nx0
  hp : ∀ id o, hlook hp0 id = some o → id < nx0 ∧ ∀ i ∈ o.ids, i < nx0
theorem getD_ids {fr : List RV} {s i : Nat} {n : Nat} (h : ∀ r ∈ fr, ∀ i ∈ r.ids, i < n) (hi : i ∈ (fr.getD s RV.und).ids) : i < n := by
  rw [List.getD_eq_getElem?_getD] at hi
  cases hs : fr[s]? with
  | none => rw [hs] at hi; simp [RV.und, RV.ids, SV.ids, CV.ids] at hi
  | some r => rw [hs] at hi; exact h r (List.mem_of_getElem? hs) i hi
structure OutOk (hpR : Hp) (nx : Nat) (t : Tr) : Prop where
  mono : nx ≤ t.nx1
  v : ∀ i ∈ t.v.ids, i < t.nx1
  up : ∀ p ∈ t.up, p.1 < t.nx1 ∧ (∀ i ∈ p.2.ids, i < t.nx1) ∧ (nx ≤ p.1 ∨ p.1 ∈ t.W)
  W : ∀ id ∈ t.W, ∃ o0 o, hlook hpR id = some o0 ∧ hlook t.up id = some o ∧ Kle o0 o
theorem kleAt_spec {hpR up : Hp} {id : Nat} (h : kleAt hpR up id = true) : ∃ o0 o, hlook hpR id = some o0 ∧ hlook up id = some o ∧ Kle o0 o := by
  unfold kleAt at h
  split at h
  · rename_i o0 o h1 h2; exact ⟨o0, o, h1, h2, kle_spec h⟩
  · cases h
theorem okOut_spec {hpR : Hp} {nx : Nat} {t : Tr} (h : okOut hpR nx t.v t.up t.nx1 t.W = true) : OutOk hpR nx t := by
  simp only [okOut, Bool.and_eq_true, List.all_eq_true, Bool.or_eq_true, List.any_eq_true] at h
  obtain ⟨⟨⟨h1, h2⟩, h3⟩, h4⟩ := h
  refine ⟨Nat.le_of_ble_eq_true h1, fun i hi => Nat.le_of_ble_eq_true (h2 i hi), fun p hp => ?_, fun id hid => kleAt_spec (h4 id hid)⟩
  obtain ⟨⟨g1, g2⟩, g3⟩ := h3 p hp
  refine ⟨Nat.le_of_ble_eq_true g1, fun i hi => Nat.le_of_ble_eq_true (g2 i hi), ?_⟩
  rcases g3 with g3 | ⟨x, hx, hb⟩
  · exact .inl (Nat.le_of_ble_eq_true g3)
  · rw [Nat.eq_of_beq_eq_true hb]; exact .inr hx
theorem okOut_mono {hpR : Hp} {nx n n' : Nat} {v : RV} {up : Hp} {W : List Nat} (hn : n ≤ n') (h : okOut hpR nx v up n W = true) : okOut hpR nx v up n' W = true := by
  simp only [okOut, Bool.and_eq_true, List.all_eq_true, Bool.or_eq_true] at h ⊢
  have lift : ∀ i, Nat.blt i n = true → Nat.blt i n' = true := fun i hi => Nat.ble_eq_true_of_le (Nat.le_trans (Nat.le_of_ble_eq_true hi) hn)
  obtain ⟨⟨⟨h1, h2⟩, h3⟩, h4⟩ := h
  exact ⟨⟨⟨Nat.ble_eq_true_of_le (Nat.le_trans (Nat.le_of_ble_eq_true h1) hn), fun i hi => lift i (h2 i hi)⟩, fun p hp => ⟨⟨lift _ (h3 p hp).1.1, fun i hi => lift i ((h3 p hp).1.2 i hi)⟩, (h3 p hp).2⟩⟩, h4⟩
theorem mem_set {α : Type} {l : List α} {d : Nat} {v r : α} (h : r ∈ l.set d v) : r = v ∨ r ∈ l := by
  rcases List.mem_or_eq_of_mem_set h with h | h
  · exact .inr h
  · exact .inl h
theorem TrsOk.names {P : Program} {ops : Array Oper} {fr0 : List RV} {hp0 : Hp} {nx0 : Nat} (hn : Names fr0 hp0 nx0) : ∀ {trs : List Tr}, TrsOk P ops fr0 hp0 nx0 trs → Names (frT fr0 trs) (hpT hp0 trs) (nxT nx0 trs) ∧ nx0 ≤ nxT nx0 trs := by
  intro trs
  induction trs with
  | nil => intro _; exact ⟨hn, Nat.le_refl _⟩
  | cons t ts ih =>
    rintro ⟨⟨o, ho, hok⟩, hr⟩
    obtain ⟨⟨h1, h2⟩, h3⟩ := ih hr
    have ho := okOut_spec hok.out
    have hm := ho.mono
    refine ⟨⟨fun r hr' i hi => ?_, fun id ob hl => ?_⟩, by simp only [nxT]; omega⟩
    · simp only [frT, putL] at hr'
      simp only [nxT]
      split at hr'
      · rcases mem_set hr' with rfl | h
        · exact ho.v i hi
        · have := h1 r h i hi; omega
      · have := h1 r hr' i hi; omega
    · simp only [hpT, hlook_append] at hl
      simp only [nxT]
      cases hu : hlook t.up id with
      | some o' =>
        rw [hu] at hl
        simp only [Option.some.injEq] at hl
        subst hl
        obtain ⟨g1, g2, _⟩ := ho.up _ (hlook_mem hu)
        exact ⟨g1, g2⟩
      | none =>
        rw [hu] at hl
        have := h2 id ob hl
        exact ⟨by omega, fun i hi => by have := this.2 i hi; omega⟩
end Go.Proofs.Ytonlllijdbjkaaa

/- A symbolic way through the code of a call: one operation of a region, whichever were done ahead of it. No condition. -/
set_option linter.unusedVariables false
namespace Go.Proofs.Ytonlllijdbjkaaa
open Go.RowKit

theorem Sat.sub {e : Env} {h h' : Nat → Option HO} {w : World} (hs : Sat e h w) (hh : ∀ id o, h' id = some o → h id = some o) : Sat e h' w :=
  ⟨fun id o ho => hs.holds id o (hh _ _ ho), fun id o ho id' o' ho' hne => hs.apart id o (hh _ _ ho) id' o' (hh _ _ ho') hne⟩
theorem frL_mem {L : Nat → Bool} {fr0 : List RV} {s : Nat} {trs : List Tr} : frL L fr0 s trs = fr0.getD s RV.und ∨ ∃ j u, At trs j u ∧ L j = true ∧ frL L fr0 s trs = u.v := by
  induction trs with
  | nil => exact .inl rfl
  | cons t ts ih =>
    simp only [frL]
    cases hb : (L ts.length && dstIs t s) with
    | true => simp only [Bool.and_eq_true] at hb; exact .inr ⟨ts.length, t, At.cons.2 (.inl ⟨rfl, rfl⟩), hb.1, rfl⟩
    | false =>
      rcases ih with h | ⟨j, u, h1, h2, h3⟩
      · exact .inl h
      · exact .inr ⟨j, u, At.cons.2 (.inr h1), h2, h3⟩
theorem hpL_mem {L : Nat → Bool} {hp0 : Hp} {id : Nat} {o : HO} {trs : List Tr} (h : hpL L hp0 id trs = some o) : hlook hp0 id = some o ∨ ∃ j u, At trs j u ∧ L j = true ∧ hlook u.up id = some o := by
  induction trs with
  | nil => exact .inl h
  | cons t ts ih =>
    simp only [hpL] at h
    cases hb : L ts.length with
    | true =>
      rw [hb] at h
      simp only [cond_true] at h
      split at h
      · rename_i o' ho'
        cases h
        exact .inr ⟨ts.length, t, At.cons.2 (.inl ⟨rfl, rfl⟩), hb, ho'⟩
      · rcases ih h with h | ⟨j, u, h1, h2, h3⟩
        · exact .inl h
        · exact .inr ⟨j, u, At.cons.2 (.inr h1), h2, h3⟩
    | false =>
      rw [hb] at h
      rcases ih h with h | ⟨j, u, h1, h2, h3⟩
      · exact .inl h
      · exact .inr ⟨j, u, At.cons.2 (.inr h1), h2, h3⟩
theorem dstIs_spec {t : Tr} {s : Nat} : dstIs t s = true ↔ t.dst = some s := by
  unfold dstIs
  cases t.dst with
  | none => simp
  | some d => simp only [Option.some.injEq]; exact ⟨Nat.eq_of_beq_eq_true, fun h => by rw [h]; exact Nat.beq_refl s⟩
theorem getD_putL {fr : List RV} {d : Option Nat} {v : RV} {s : Nat} (hb : ∀ x, d = some x → x < fr.length) : (putL fr d v).getD s RV.und = if d = some s then v else fr.getD s RV.und := by
  cases d with
  | none => simp [putL]
  | some x =>
    have := hb x rfl
    simp only [putL, List.getD_eq_getElem?_getD, List.getElem?_set, Option.some.injEq]
    by_cases h : x = s
    · subst h; simp [this]
    · simp [h]
theorem frL_all {P : Program} {ops : Array Oper} {L : Nat → Bool} {fr0 : List RV} {hp0 : Hp} {nx0 s : Nat} : ∀ {ts : List Tr}, TrsOk P ops fr0 hp0 nx0 ts → (∀ j u, At ts j u → u.dst = some s → L j = true) → frL L fr0 s ts = (frT fr0 ts).getD s RV.und := by
  intro ts
  induction ts with
  | nil => intro _ _; rfl
  | cons t ts ih =>
    rintro ⟨⟨o, _, hok⟩, hr⟩ h
    simp only [frL, frT]
    rw [getD_putL (by have := hok.bound; exact this)]
    have hih := ih hr fun j u hj hu => h j u (At.cons.2 (.inr hj)) hu
    cases hd : dstIs t s with
    | true =>
      have := dstIs_spec.1 hd
      rw [h _ t (At.cons.2 (.inl ⟨rfl, rfl⟩)) this, if_pos this]; rfl
    | false =>
      have : t.dst ≠ some s := fun h' => by rw [dstIs_spec.2 h'] at hd; cases hd
      rw [if_neg this, Bool.and_false]
      exact hih
theorem hpL_all {L : Nat → Bool} {hp0 : Hp} {id : Nat} : ∀ {ts : List Tr}, (∀ j u, At ts j u → hlook u.up id ≠ none → L j = true) → hpL L hp0 id ts = hlook (hpT hp0 ts) id := by
  intro ts
  induction ts with
  | nil => intro _; rfl
  | cons t ts ih =>
    intro h
    simp only [hpL, hpT, hlook_append]
    have hih := ih fun j u hj hu => h j u (At.cons.2 (.inr hj)) hu
    cases hu : hlook t.up id with
    | some o => rw [h _ t (At.cons.2 (.inl ⟨rfl, rfl⟩)) (by rw [hu]; simp)]; rfl
    | none => cases L ts.length <;> simp [hih]
theorem frL_lex {P : Program} {ops : Array Oper} {L : Nat → Bool} {fr0 : List RV} {hp0 : Hp} {nx0 s : Nat} {t : Tr} {ts : List Tr} (hr : TrsOk P ops fr0 hp0 nx0 ts) (hi : L ts.length = false) :
    ∀ (pre : List Tr), (∀ j u, At (pre ++ t :: ts) j u → j ≠ ts.length → u.dst = some s → (L j = true ↔ j < ts.length)) → frL L fr0 s (pre ++ t :: ts) = (frT fr0 ts).getD s RV.und := by
  intro pre
  induction pre with
  | nil =>
    intro h
    simp only [List.nil_append, frL, hi, Bool.false_and, cond_false]
    exact frL_all hr fun j u hj hu => (h j u (At.cons.2 (.inr hj)) (Nat.ne_of_lt hj.lt) hu).2 hj.lt
  | cons p pre ih =>
    intro h
    have hlen : (pre ++ t :: ts).length ≠ ts.length := by simp; omega
    have hlen2 : ¬ (pre ++ t :: ts).length < ts.length := by simp; omega
    rw [List.cons_append]
    simp only [frL]
    cases hd : dstIs p s with
    | true =>
      have h1 := h _ p (At.cons.2 (.inl ⟨rfl, rfl⟩)) hlen (dstIs_spec.1 hd)
      have h2 : L (pre ++ t :: ts).length = false := by
        cases hL : L (pre ++ t :: ts).length with
        | false => rfl
        | true => exact absurd (h1.1 hL) hlen2
      rw [h2]
      exact ih fun j u hj => h j u (At.cons.2 (.inr hj))
    | false =>
      rw [Bool.and_false]
      exact ih fun j u hj => h j u (At.cons.2 (.inr hj))
theorem hpL_lex {L : Nat → Bool} {hp0 : Hp} {id : Nat} {t : Tr} {ts : List Tr} (hi : L ts.length = false) :
    ∀ (pre : List Tr), (∀ j u, At (pre ++ t :: ts) j u → j ≠ ts.length → hlook u.up id ≠ none → (L j = true ↔ j < ts.length)) → hpL L hp0 id (pre ++ t :: ts) = hlook (hpT hp0 ts) id := by
  intro pre
  induction pre with
  | nil =>
    intro h
    simp only [List.nil_append, hpL, hi, cond_false]
    exact hpL_all fun j u hj hu => (h j u (At.cons.2 (.inr hj)) (Nat.ne_of_lt hj.lt) hu).2 hj.lt
  | cons p pre ih =>
    intro h
    have hlen : (pre ++ t :: ts).length ≠ ts.length := by simp; omega
    have hlen2 : ¬ (pre ++ t :: ts).length < ts.length := by simp; omega
    have hih := ih fun j u hj => h j u (At.cons.2 (.inr hj))
    rw [List.cons_append]
    simp only [hpL]
    cases hu : hlook p.up id with
    | some o =>
      have h1 := h _ p (At.cons.2 (.inl ⟨rfl, rfl⟩)) hlen (by rw [hu]; simp)
      have h2 : L (pre ++ t :: ts).length = false := by
        cases hL : L (pre ++ t :: ts).length with
        | false => rfl
        | true => exact absurd (h1.1 hL) hlen2
      rw [h2]; exact hih
    | none => cases L (pre ++ t :: ts).length <;> simp [hih]
def setAt (L : Nat → Bool) (i : Nat) : Nat → Bool := fun j => bif Nat.beq j i then true else L j
theorem setAt_ne {L : Nat → Bool} {i j : Nat} (h : j ≠ i) : setAt L i j = L j := by
  unfold setAt
  cases hb : Nat.beq j i with
  | true => exact absurd (Nat.eq_of_beq_eq_true hb) h
  | false => rfl
theorem setAt_same {L : Nat → Bool} {i : Nat} : setAt L i i = true := by unfold setAt; rw [Nat.beq_refl]; rfl
theorem frL_below {L : Nat → Bool} {i : Nat} {fr0 : List RV} {s : Nat} : ∀ (ts : List Tr), ts.length ≤ i → frL (setAt L i) fr0 s ts = frL L fr0 s ts := by
  intro ts
  induction ts with
  | nil => intro _; rfl
  | cons t ts ih =>
    intro h
    simp only [List.length_cons] at h
    simp only [frL]
    rw [setAt_ne (by omega), ih (by omega)]
theorem hpL_below {L : Nat → Bool} {i : Nat} {hp0 : Hp} {id : Nat} : ∀ (ts : List Tr), ts.length ≤ i → hpL (setAt L i) hp0 id ts = hpL L hp0 id ts := by
  intro ts
  induction ts with
  | nil => intro _; rfl
  | cons t ts ih =>
    intro h
    simp only [List.length_cons] at h
    simp only [hpL]
    rw [setAt_ne (by omega), ih (by omega)]
theorem frL_set {L : Nat → Bool} {fr0 : List RV} {s : Nat} {t : Tr} {ts : List Tr} (hi : L ts.length = false) : ∀ (pre : List Tr),
    (t.dst = some s → ∀ j u, At (pre ++ t :: ts) j u → L j = true → ts.length < j → u.dst ≠ some s) →
    frL (setAt L ts.length) fr0 s (pre ++ t :: ts) = if t.dst = some s then t.v else frL L fr0 s (pre ++ t :: ts) := by
  intro pre
  induction pre with
  | nil =>
    intro _
    simp only [List.nil_append, frL, setAt_same, Bool.true_and, hi, Bool.false_and, cond_false]
    rw [frL_below ts (Nat.le_refl _)]
    cases hd : dstIs t s with
    | true => rw [if_pos (dstIs_spec.1 hd)]; rfl
    | false =>
      rw [if_neg (fun h' => by rw [dstIs_spec.2 h'] at hd; cases hd)]; rfl
  | cons p pre ih =>
    intro h
    have hlen : (pre ++ t :: ts).length ≠ ts.length := by simp; omega
    have hlt : ts.length < (pre ++ t :: ts).length := by simp; omega
    have hih := ih fun hd j u hj => h hd j u (At.cons.2 (.inr hj))
    rw [List.cons_append]
    simp only [frL]
    rw [setAt_ne hlen, hih]
    cases hb : (L (pre ++ t :: ts).length && dstIs p s) with
    | false => rfl
    | true =>
      simp only [Bool.and_eq_true] at hb
      have hd := dstIs_spec.1 hb.2
      have hne : ¬ t.dst = some s := fun h' => h h' _ p (At.cons.2 (.inl ⟨rfl, rfl⟩)) hb.1 hlt hd
      simp only [cond_true, if_neg hne]
theorem hpL_set {L : Nat → Bool} {hp0 : Hp} {id : Nat} {t : Tr} {ts : List Tr} (hi : L ts.length = false) : ∀ (pre : List Tr),
    (hlook t.up id ≠ none → ∀ j u, At (pre ++ t :: ts) j u → L j = true → ts.length < j → hlook u.up id = none) →
    hpL (setAt L ts.length) hp0 id (pre ++ t :: ts) = (match hlook t.up id with | some o => some o | none => hpL L hp0 id (pre ++ t :: ts)) := by
  intro pre
  induction pre with
  | nil =>
    intro _
    simp only [List.nil_append, hpL, setAt_same, hi, cond_true, cond_false]
    rw [hpL_below ts (Nat.le_refl _)]
    all_goals (cases hlook t.up id <;> rfl)
  | cons p pre ih =>
    intro h
    have hlen : (pre ++ t :: ts).length ≠ ts.length := by simp; omega
    have hlt : ts.length < (pre ++ t :: ts).length := by simp; omega
    have hih := ih fun hd j u hj => h hd j u (At.cons.2 (.inr hj))
    rw [List.cons_append]
    simp only [hpL]
    rw [setAt_ne hlen, hih]
    cases hL : L (pre ++ t :: ts).length with
    | false => cases hlook t.up id <;> rfl
    | true =>
      cases hu : hlook t.up id with
      | none => rfl
      | some o => rw [h (by rw [hu]; simp) _ p (At.cons.2 (.inl ⟨rfl, rfl⟩)) hL hlt]; rfl
theorem TrsOk.nx {P : Program} {ops : Array Oper} {fr0 : List RV} {hp0 : Hp} {nx0 : Nat} : ∀ {ts : List Tr}, TrsOk P ops fr0 hp0 nx0 ts → ∀ j u, At ts j u → u.nx1 ≤ nxT nx0 ts := by
  intro ts
  induction ts with
  | nil => intro _ j u h; exact absurd h.lt (by simp)
  | cons t ts ih =>
    rintro ⟨⟨o, _, hok⟩, hr⟩ j u h
    rcases At.cons.1 h with ⟨_, rfl⟩ | h
    · exact Nat.le_refl _
    · have h1 := ih hr j u h
      have h2 := (okOut_spec hok.out).mono
      simp only [nxT]; omega

/-- What lies under an old name lies where it lay. -/
theorem hpT_old {P : Program} {ops : Array Oper} {fr0 : List RV} {hp0 : Hp} {nx0 : Nat} (hn : Names fr0 hp0 nx0) : ∀ {ts : List Tr}, TrsOk P ops fr0 hp0 nx0 ts → ∀ id o, id < nx0 → hlook (hpT hp0 ts) id = some o →
    ∃ o0, hlook hp0 id = some o0 ∧ Kle o0 o := by
  intro ts
  induction ts with
  | nil => intro _ id o _ h; exact ⟨o, h, .refl o⟩
  | cons t ts ih =>
    rintro ⟨⟨o', _, hok⟩, hr⟩ id o hid h
    simp only [hpT, hlook_append] at h
    cases hu : hlook t.up id with
    | none => rw [hu] at h; exact ih hr id o hid h
    | some o1 =>
      rw [hu] at h
      simp only [Option.some.injEq] at h
      subst h
      have hout := okOut_spec hok.out
      have hge := (hr.names hn).2
      rcases (hout.up _ (hlook_mem hu)).2.2 with h1 | h1
      · simp only at h1; omega
      · obtain ⟨o2, o3, h2, h3, h4⟩ := hout.W id h1
        rw [hu] at h3
        cases h3
        obtain ⟨o4, h5, h6⟩ := ih hr id _ hid (hlook_restrict h2).2
        exact ⟨o4, h5, h6.trans h4⟩
theorem up_old {P : Program} {ops : Array Oper} {fr0 : List RV} {hp0 : Hp} {nx0 : Nat} (hn : Names fr0 hp0 nx0) {trs : List Tr} (h : TrsOk P ops fr0 hp0 nx0 trs) {j : Nat} {u : Tr} (hj : At trs j u) {id : Nat} {o : HO} (hid : id < nx0) (hu : hlook u.up id = some o) :
    ∃ o0, hlook hp0 id = some o0 ∧ Kle o0 o := by
  obtain ⟨o', pre, ts, rfl, _, _, hok, hts⟩ := h.at hj
  have hout := okOut_spec hok.out
  have hge := (hts.names hn).2
  rcases (hout.up _ (hlook_mem hu)).2.2 with h1 | h1
  · simp only at h1; omega
  · obtain ⟨o2, o3, h2, h3, h4⟩ := hout.W id h1
    rw [hu] at h3
    cases h3
    obtain ⟨o4, h5, h6⟩ := hpT_old hn hts id _ hid (hlook_restrict h2).2
    exact ⟨o4, h5, h6.trans h4⟩
/-- A slot holds what is said of it. -/
def Fits (e : Env) (r : RV) (v : Option Value) : Prop := r.isDead = true ∨ v = some (r.den e)
/-- An old block of one's own that was written. -/
def Wrote (trs : List Tr) (hp0 : Hp) (nx0 : Nat) (e : Env) (b : Nat) : Prop := ∃ j u, At trs j u ∧ ∃ id0 ∈ u.W, id0 < nx0 ∧ ∃ o0, hlook hp0 id0 = some o0 ∧ o0.owns e id0 b
/-- An old block that is read alone. -/
def Reads (hp0 : Hp) (nx0 : Nat) (e : Env) (b : Nat) : Prop := ∃ id0 o0, id0 < nx0 ∧ hlook hp0 id0 = some o0 ∧ o0.foot e id0 b ∧ ¬ o0.owns e id0 b
theorem Wrote.same {trs : List Tr} {hp0 : Hp} {nx0 : Nat} {e e' : Env} {b : Nat} (hs : ∀ id, id < nx0 → e.same e' id) (h : Wrote trs hp0 nx0 e b) : Wrote trs hp0 nx0 e' b := by
  obtain ⟨j, u, h1, id0, h2, h3, o0, h4, h5⟩ := h
  exact ⟨j, u, h1, id0, h2, h3, o0, h4, (HO.owns_same (hs id0 h3)).2 h5⟩
theorem Reads.same {hp0 : Hp} {nx0 : Nat} {e e' : Env} {b : Nat} (hs : ∀ id, id < nx0 → e.same e' id) (h : Reads hp0 nx0 e b) : Reads hp0 nx0 e' b := by
  obtain ⟨id0, o0, h3, h4, h5, h6⟩ := h
  exact ⟨id0, o0, h3, h4, (HO.foot_same (hs id0 h3)).2 h5, fun h => h6 ((HO.owns_same (hs id0 h3)).1 h)⟩
/-- Where the operations of L are done. -/
structure Inv (fr0 : List RV) (hp0 : Hp) (nx0 : Nat) (trs : List Tr) (e0 : Env) (w0 : World) (L : Nat → Bool) (a : Act) (w : World) (e : Env) : Prop where
  size : a.tmps.size = fr0.length
  slot : ∀ s, s < fr0.length → Fits e (frL L fr0 s trs) a.tmps[s]?
  defers : a.defers = []
  sat : Sat e (fun id => hpL L hp0 id trs) w
  agree : ∀ id, id < nx0 ∨ nxT nx0 trs ≤ id → e0.same e id
  os : w.os = w0.os
  tape : w.tape = w0.tape
  output : w.output = w0.output
  grown : w0.heap.size ≤ w.heap.size
  fr : ∀ k, k < w0.heap.size → ¬ Wrote trs hp0 nx0 e0 k → w.heap[k]? = w0.heap[k]?
  own : ∀ id o b, hpL L hp0 id trs = some o → nx0 ≤ id → o.owns e id b → w0.heap.size ≤ b ∨ Wrote trs hp0 nx0 e b
  foot : ∀ id o b, hpL L hp0 id trs = some o → nx0 ≤ id → o.foot e id b → w0.heap.size ≤ b ∨ Wrote trs hp0 nx0 e b ∨ Reads hp0 nx0 e b

/-- What t may meet of the operations that are done. -/
structure Apart (trs : List Tr) (L : Nat → Bool) (i : Nat) (t : Tr) : Prop where
  looks : ∀ j u, At trs j u → j ≠ i → ∀ d, u.dst = some d → d ∈ t.looks → (L j = true ↔ j < i)
  reach : ∀ j u, At trs j u → j ≠ i → ∀ id ∈ t.R, hlook u.up id ≠ none → (L j = true ↔ j < i)
  dst : ∀ j u, At trs j u → L j = true → i < j → ∀ d, t.dst = some d → u.dst ≠ some d
  up : ∀ j u, At trs j u → L j = true → i < j → ∀ id, hlook t.up id ≠ none → hlook u.up id = none
  v : ∀ j u, At trs j u → L j = true → i < j → ∀ id ∈ u.v.ids, id < t.nx0 ∨ t.nx1 ≤ id
  ups : ∀ j u, At trs j u → L j = true → i < j → ∀ p ∈ u.up, (p.1 < t.nx0 ∨ t.nx1 ≤ p.1) ∧ ∀ id ∈ p.2.ids, id < t.nx0 ∨ t.nx1 ≤ id

/-- The blocks behind one operation. -/
theorem sat_next {e e' : Env} {w w' : World} {h : Nat → Option HO} {hR : Nat → Option HO} {nx : Nat} {out : Out} (hs : Sat e h w) (hsub : ∀ id o, hR id = some o → h id = some o)
    (hp : PostOp e e' hR nx out w w') (hW : ∀ id ∈ out.W, ∃ o0 o, hR id = some o0 ∧ hlook out.up id = some o ∧ Kle o0 o)
    (hsame : ∀ id o, h id = some o → e.same e' id ∧ ∀ i ∈ o.ids, e.same e' i) :
    Sat e' (fun id => match hlook out.up id with | some o => some o | none => h id) w' := by
  have old : ∀ id o, h id = some o → hlook out.up id = none → ∀ b, o.foot e id b → w'.heap[b]? = w.heap[b]? := by
    intro id o ho hn b hf
    refine hp.fr b (HO.foot_lt (hs.holds _ _ ho) hf) fun i hi o9 h9 hb => ?_
    obtain ⟨o0, o1, h1, h2, _⟩ := hW i hi
    have hne : i ≠ id := fun h' => by rw [h', hn] at h2; cases h2
    exact hs.apart i o9 (hsub _ _ h9) id o ho hne b hb hf
  refine ⟨fun id o ho => ?_, fun id o ho id' o' ho' hne b hb hf => ?_⟩
  · cases hu : hlook out.up id with
    | some o1 =>
      simp only [hu, Option.some.injEq] at ho
      subst ho
      exact hp.sat.holds _ _ hu
    | none =>
      simp only [hu] at ho
      obtain ⟨s1, s2⟩ := hsame id o ho
      exact HO.holds_next (hs.holds _ _ ho) s1 s2 (old id o ho hu) hp.size
  · cases hu : hlook out.up id with
    | some o1 =>
      simp only [hu, Option.some.injEq] at ho
      subst ho
      cases hu' : hlook out.up id' with
      | some o2 =>
        simp only [hu', Option.some.injEq] at ho'
        subst ho'
        exact hp.sat.apart _ _ hu _ _ hu' hne b hb hf
      | none =>
        simp only [hu'] at ho'
        obtain ⟨s1, s2⟩ := hsame id' o' ho'
        rw [HO.foot_same s1] at hf
        have hlt := HO.foot_lt (hs.holds _ _ ho') hf
        rcases hp.own id _ b hu hb with h1 | ⟨id0, h1, o0, h2, h3⟩
        · omega
        · obtain ⟨o3, o4, g1, g2, _⟩ := hW id0 h1
          have hne' : id0 ≠ id' := fun h' => by rw [h', hu'] at g2; cases g2
          exact hs.apart id0 o0 (hsub _ _ h2) id' o' ho' hne' b h3 hf
    | none =>
      simp only [hu] at ho
      obtain ⟨s1, s2⟩ := hsame id _ ho
      rw [HO.owns_same s1] at hb
      have hlt := HO.foot_lt (hs.holds _ _ ho) (HO.owns_foot hb)
      cases hu' : hlook out.up id' with
      | some o2 =>
        simp only [hu', Option.some.injEq] at ho'
        subst ho'
        rcases hp.foot id' _ b hu' hf with h1 | ⟨id0, h1, o0, h2, h3⟩ | ⟨id0, o0, h2, h3, h4⟩
        · omega
        · obtain ⟨o3, o4, g1, g2, _⟩ := hW id0 h1
          have hne' : id ≠ id0 := fun h' => by rw [← h', hu] at g2; cases g2
          exact hs.apart id o ho id0 o0 (hsub _ _ h2) hne' b hb (HO.owns_foot h3)
        · by_cases hid : id = id0
          · subst hid
            rw [hsub _ _ h2] at ho
            cases ho
            exact h4 hb
          · exact hs.apart id o ho id0 o0 (hsub _ _ h2) hid b hb h3
      | none =>
        simp only [hu'] at ho'
        obtain ⟨s3, s4⟩ := hsame id' _ ho'
        rw [HO.foot_same s3] at hf
        exact hs.apart id o ho id' o' ho' hne b hb hf
end Go.Proofs.Ytonlllijdbjkaaa

/- A symbolic way through the code of a call: a region as a whole. No condition. -/
set_option linter.unusedVariables false
namespace Go.Proofs.Ytonlllijdbjkaaa
open Go.RowKit

section
variable {P : Program} {ops : Array Oper} {fr0 : List RV} {hp0 : Hp} {nx0 : Nat} {trs : List Tr} {e0 : Env} {w0 : World} {L : Nat → Bool} {a : Act} {w : World} {e : Env} {Q : Exit → Act → World → Prop}

theorem tmps_put {d : Option Nat} {v : Value} {s : Nat} : (a.put d v).tmps[s]? = if d = some s ∧ s < a.tmps.size then some v else a.tmps[s]? := by
  cases d with
  | none => simp [Act.put]
  | some x =>
    simp only [Act.put, Array.getElem?_setIfInBounds, Option.some.injEq]
    by_cases h : x = s
    · subst h
      by_cases hx : x < a.tmps.size <;> simp [hx]
    · simp [h]
theorem put_tmps_size {d : Option Nat} {v : Value} : (a.put d v).tmps.size = a.tmps.size := by cases d <;> simp [Act.put]
theorem put_defs {d : Option Nat} {v : Value} : (a.put d v).defers = a.defers := by cases d <;> rfl

theorem step_op (hn : Names fr0 hp0 nx0) (htr : TrsOk P ops fr0 hp0 nx0 trs) {i : Nat} {t : Tr} (hat : At trs i t) (hi : L i = false) (hap : Apart trs L i t)
    (hinv : Inv fr0 hp0 nx0 trs e0 w0 L a w e) {K : Act → World → Prop} (hK : ∀ a' w' e', Inv fr0 hp0 nx0 trs e0 w0 (setAt L i) a' w' e' → K a' w') : wpOp P ops Q i K a w := by
  obtain ⟨o, pre, ts, rfl, rfl, ho, hok, hts⟩ := htr.at hat
  obtain ⟨⟨nfr, nhp⟩, nge⟩ := hts.names hn
  have hout := okOut_spec hok.out
  have hnx := hok.nx0
  have hmono := hout.mono
  -- the slots and blocks that it looks at
  have hslot : ∀ s, s ∈ t.looks → s < fr0.length → Fits e ((frT fr0 ts).getD s RV.und) a.tmps[s]? := by
    intro s hs hlt
    have := hinv.slot s hlt
    rw [frL_lex hts hi pre fun j u hj hne hd => hap.looks j u hj hne s hd hs] at this
    exact this
  have hslot' : ∀ s, s ∈ t.looks → ((frT fr0 ts).getD s RV.und).isDead = false → a.tmps.getD s undef = ((frT fr0 ts).getD s RV.und).den e := by
    intro s hs hd
    by_cases hlt : s < fr0.length
    · rcases hslot s hs hlt with h | h
      · rw [hd] at h; cases h
      · rw [Array.getD_eq_getD_getElem?, h]; rfl
    · rw [Array.getD_eq_getD_getElem?, Array.getElem?_eq_none (by rw [hinv.size]; omega), List.getD_eq_getElem?_getD, List.getElem?_eq_none (by rw [frT_length]; omega)]
      rfl
  have hblk : ∀ id ob, hlook (restrict (hpT hp0 ts) t.R) id = some ob → hpL L hp0 id (pre ++ t :: ts) = some ob := by
    intro id ob h
    obtain ⟨h1, h2⟩ := hlook_restrict h
    rw [hpL_lex hi pre fun j u hj hne hu => hap.reach j u hj hne id h1 hu, h2]
  have hwant : ∀ d, GuardIs ops o (frT fr0 ts) d → Region.wanted o (yielded ops a.tmps) = d := by
    intro d hg
    unfold GuardIs at hg
    unfold Region.wanted
    cases hgd : o.guard with
    | none => rw [hgd] at hg; exact hg.symm
    | some gw =>
      obtain ⟨g, want⟩ := gw
      rw [hgd] at hg
      rcases hg with ⟨s, b, k, h1, h2, rfl⟩ | ⟨s, h1, h2, rfl⟩
      · have hs : s ∈ t.looks := by rw [hok.looks]; simp [looksOf, hgd, h1]
        have hlt : s < fr0.length := by
          rcases Nat.lt_or_ge s fr0.length with h | h
          · exact h
          · rw [List.getD_eq_getElem?_getD, List.getElem?_eq_none (by rw [frT_length]; exact h)] at h2
            simp only [Option.getD_none, RV.und, RV.sv.injEq, SV.one.injEq, CV.val.injEq] at h2
            exact absurd h2.2 (by unfold undef; simp)
        have h3 := (hslot s hs hlt).resolve_left (by rw [h2]; simp [RV.isDead])
        rw [h2] at h3
        have h4 : yielded ops a.tmps g = some b := by
          unfold yielded
          rw [h1]
          simp only [Option.bind_some, h3]
          rfl
        simp only [h4]
        cases b <;> cases want <;> rfl
      · have hs : s ∈ t.looks := by rw [hok.looks]; simp [looksOf, hgd, h1]
        have h3 := hslot' s hs (by rw [h2]; rfl)
        rw [h2] at h3
        have h4 : yielded ops a.tmps g = none := by
          unfold yielded
          rw [h1]
          simp only [Option.bind_some]
          rw [Array.getD_eq_getD_getElem?] at h3
          cases h5 : a.tmps[s]? with
          | none => rfl
          | some v =>
            rw [h5] at h3
            simp only [Option.getD_some] at h3
            subst h3
            rfl
        simp only [h4]
        rfl
  have hL' : ∀ id, hpL (setAt L ts.length) hp0 id (pre ++ t :: ts) = (match hlook t.up id with | some o => some o | none => hpL L hp0 id (pre ++ t :: ts)) :=
    fun id => hpL_set hi pre fun hu j u hj hLj hlt => hap.up j u hj hLj hlt id hu
  have hF' : ∀ s, frL (setAt L ts.length) fr0 s (pre ++ t :: ts) = if t.dst = some s then t.v else frL L fr0 s (pre ++ t :: ts) :=
    fun s => frL_set hi pre fun hd j u hj hLj hlt => hap.dst j u hj hLj hlt s hd
  -- what is done ahead names nothing of its new names
  have hbelow : ∀ j u, At (pre ++ t :: ts) j u → L j = true → j < ts.length → (∀ id ∈ u.v.ids, id < t.nx0) ∧ ∀ p ∈ u.up, p.1 < t.nx0 ∧ ∀ id ∈ p.2.ids, id < t.nx0 := by
    intro j u hj _ hlt
    have hat' : At ts j u := by
      obtain ⟨u', hu'⟩ := At.of_lt hlt
      have : At (pre ++ t :: ts) j u' := by
        obtain ⟨p1, t1, rfl, h2⟩ := hu'
        exact ⟨pre ++ t :: p1, t1, by simp, h2⟩
      rw [hj.one this]; exact hu'
    have h1 := hts.nx j u hat'
    obtain ⟨_, _, _, _, _, _, hok', _⟩ := hts.at hat'
    have ho' := okOut_spec hok'.out
    rw [hnx]
    exact ⟨fun id hid => by have := ho'.v id hid; omega, fun p hp => ⟨by have := (ho'.up p hp).1; omega, fun id hid => by have := (ho'.up p hp).2.1 id hid; omega⟩⟩
  have hvs : ∀ s, ∀ id ∈ (frL L fr0 s (pre ++ t :: ts)).ids, id < t.nx0 ∨ t.nx1 ≤ id := by
    intro s id hid
    rcases frL_mem (L := L) (fr0 := fr0) (s := s) (trs := pre ++ t :: ts) with h | ⟨j, u, h1, h2, h3⟩
    · rw [h] at hid
      have := getD_ids hn.fr hid
      left; rw [hnx]; omega
    · rw [h3] at hid
      have hne : j ≠ ts.length := fun h' => by rw [h', hi] at h2; cases h2
      rcases Nat.lt_or_gt_of_ne hne with h | h
      · exact .inl ((hbelow j u h1 h2 h).1 id hid)
      · exact hap.v j u h1 h2 h id hid
  have hus : ∀ id ob, hpL L hp0 id (pre ++ t :: ts) = some ob → (id < t.nx0 ∨ t.nx1 ≤ id) ∧ ∀ i ∈ ob.ids, i < t.nx0 ∨ t.nx1 ≤ i := by
    intro id ob h
    rcases hpL_mem h with h | ⟨j, u, h1, h2, h3⟩
    · have := hn.hp id ob h
      exact ⟨by omega, fun i hi => by have := this.2 i hi; omega⟩
    · have hne : j ≠ ts.length := fun h' => by rw [h', hi] at h2; cases h2
      rcases Nat.lt_or_gt_of_ne hne with h' | h'
      · have := (hbelow j u h1 h2 h').2 _ (hlook_mem h3)
        exact ⟨.inl this.1, fun i hi => .inl (this.2 i hi)⟩
      · exact hap.ups j u h1 h2 h' _ (hlook_mem h3)
  unfold wpOp
  simp only [ho]
  rcases hok.does with ⟨hg, hlive, out, hop, hden, hup, hnx1, hW⟩ | ⟨hg, hv, hup, hW, hnx1⟩
  · rw [if_pos (hwant true hg)]
    refine .inl ?_
    have hgetids : ∀ x ∈ o.op.operands, ∀ id ∈ (opnd (frT fr0 ts) x).ids, id < nxT nx0 ts := by
      intro x _ id hid
      cases x with
      | tmp s => exact getD_ids nfr hid
      | const v => simp only [opnd, RV.ids_ofVal] at hid; cases hid
      | global g => simp [opnd, RV.ids, SV.ids, CV.ids] at hid
      | func f => simp [opnd, RV.ids, SV.ids, CV.ids] at hid
    refine hop hgetids nhp e a w (fun x hx => ?_) (hinv.sat.sub hblk) K Q fun e' w' hpost => ?_
    · cases x with
      | tmp s => exact hslot' s (by rw [hok.looks]; exact List.mem_append_left _ (List.mem_filterMap.2 ⟨.tmp s, by simpa using hx, rfl⟩)) (hlive _ hx)
      | const v => simp only [Act.eval, opnd, RV.den_ofVal]
      | global g => rfl
      | func f => rfl
    · have hagree : ∀ id, id < t.nx0 ∨ t.nx1 ≤ id → e.same e' id := by
        intro id h
        exact hpost.agree id (by
          rcases h with h | h
          · left; omega
          · right; omega)
      have hsat := sat_next hinv.sat hblk hpost (by rw [← hW, ← hup]; exact hout.W) (fun id ob h => ⟨hagree id (hus id ob h).1, fun i hi => hagree i ((hus id ob h).2 i hi)⟩)
      rw [← hup] at hsat
      have hlow : ∀ id, id < nx0 → e.same e' id := fun id hid => hagree id (.inl (by rw [hnx]; omega))
      -- what an operation met of old blocks
      have ownR : ∀ id0 o0 b, hlook (restrict (hpT hp0 ts) t.R) id0 = some o0 → id0 ∈ t.W → o0.owns e id0 b → w0.heap.size ≤ b ∨ Wrote (pre ++ t :: ts) hp0 nx0 e b := by
        intro id0 o0 b h1 h2 h3
        by_cases h4 : id0 < nx0
        · obtain ⟨oS, h5, h6⟩ := hpT_old hn hts id0 o0 h4 (hlook_restrict h1).2
          exact .inr ⟨_, t, hat, id0, h2, h4, oS, h5, h6.owns h3⟩
        · exact hinv.own id0 o0 b (hblk _ _ h1) (by omega) h3
      refine hK _ _ e' ⟨by rw [put_tmps_size]; exact hinv.size, fun s hs => ?_, by rw [put_defs]; exact hinv.defers, ?_, fun id hid => ?_, hpost.os.trans hinv.os, hpost.tape.trans hinv.tape, hpost.output.trans hinv.output, Nat.le_trans hinv.grown hpost.size, ?_, ?_, ?_⟩
      · rw [tmps_put, hF' s, hinv.size, ← hok.dst, ← hden]
        by_cases hd : t.dst = some s
        · rw [if_pos hd, if_pos ⟨hd, hs⟩]; exact .inr rfl
        · rw [if_neg hd, if_neg (fun h => hd h.1)]
          rcases hinv.slot s hs with h | h
          · exact .inl h
          · exact .inr (by rw [h, RV.den_same _ fun id hid => hagree id (hvs s id hid)])
      · refine hsat.sub fun id ob h => ?_
        have h' : hpL (setAt L ts.length) hp0 id (pre ++ t :: ts) = some ob := h
        rw [hL'] at h'
        exact h'
      · have h1 := hinv.agree id hid
        have hle := htr.nx _ _ hat
        have h2 := hagree id (by
          rcases hid with h | h
          · left; omega
          · right; omega)
        exact h1.trans h2
      · intro k hk hne
        rw [hpost.fr k (Nat.lt_of_lt_of_le hk hinv.grown) fun id hid o9 h9 hb => ?_]
        · exact hinv.fr k hk hne
        · rw [← hW] at hid
          rcases ownR id o9 k h9 hid hb with h | h
          · omega
          · exact hne (h.same fun id hid => (hinv.agree id (.inl hid)).symm)
      · intro id ob b h hid hf
        rw [hL'] at h
        cases hu : hlook t.up id with
        | none =>
          rw [hu] at h
          simp only at h
          rw [HO.owns_same (hagree id (hus id _ h).1)] at hf
          exact (hinv.own id ob b h hid hf).imp (fun h => h) (Wrote.same hlow)
        | some o1 =>
          rw [hu] at h
          simp only [Option.some.injEq] at h
          subst h
          rcases hpost.own id _ b (by rw [← hup]; exact hu) hf with h1 | ⟨id0, h1, o0, h2, h3⟩
          · exact .inl (Nat.le_trans hinv.grown h1)
          · exact (ownR id0 o0 b h2 (by rw [hW]; exact h1) h3).imp (fun h => h) (Wrote.same hlow)
      · intro id ob b h hid hf
        rw [hL'] at h
        cases hu : hlook t.up id with
        | none =>
          rw [hu] at h
          simp only at h
          rw [HO.foot_same (hagree id (hus id _ h).1)] at hf
          exact (hinv.foot id ob b h hid hf).imp (fun h => h) (Or.imp (Wrote.same hlow) (Reads.same hlow))
        | some o1 =>
          rw [hu] at h
          simp only [Option.some.injEq] at h
          subst h
          rcases hpost.foot id _ b (by rw [← hup]; exact hu) hf with h1 | ⟨id0, h1, o0, h2, h3⟩ | ⟨id0, o0, h2, h3, h4⟩
          · exact .inl (Nat.le_trans hinv.grown h1)
          · exact (ownR id0 o0 b h2 (by rw [hW]; exact h1) h3).imp (fun h => h) fun h => .inl (h.same hlow)
          · by_cases h5 : id0 < nx0
            · obtain ⟨oS, h6, h7⟩ := hpT_old hn hts id0 o0 h5 (hlook_restrict h2).2
              have h8 := h7 e id0 b h3
              exact .inr (.inr (Reads.same hlow ⟨id0, oS, h5, h6, h8.1, fun h => h4 (h8.2.2 h)⟩))
            · exact (hinv.foot id0 o0 b (hblk _ _ h2) (by omega) h3).imp (fun h => h) (Or.imp (Wrote.same hlow) (Reads.same hlow))
  · rw [if_neg (by rw [hwant false hg]; simp)]
    have hup' : ∀ id, hlook t.up id = none := fun id => by rw [hup]; rfl
    refine hK _ _ e ⟨by rw [put_tmps_size]; exact hinv.size, fun s hs => ?_, by rw [put_defs]; exact hinv.defers, ?_, hinv.agree, hinv.os, hinv.tape, hinv.output, hinv.grown, hinv.fr, ?_, ?_⟩
    · rw [tmps_put, hF' s, hinv.size, ← hok.dst, hv]
      by_cases hd : t.dst = some s
      · rw [if_pos hd, if_pos ⟨hd, hs⟩]; exact .inr rfl
      · rw [if_neg hd, if_neg (fun h => hd h.1)]; exact hinv.slot s hs
    · refine hinv.sat.sub fun id ob h => ?_
      have h' : hpL (setAt L ts.length) hp0 id (pre ++ t :: ts) = some ob := h
      rw [hL', hup'] at h'
      exact h'
    · intro id ob b h hid hf
      rw [hL', hup'] at h
      exact hinv.own id ob b h hid hf
    · intro id ob b h hid hf
      rw [hL', hup'] at h
      exact hinv.foot id ob b h hid hf
end

/-! ### All of them, in the text's order -/
def Done (n : Nat) : Nat → Bool := fun j => Nat.blt j n
theorem Done.set (n : Nat) : setAt (Done n) n = Done (n + 1) := by
  funext j
  by_cases h : j = n
  · subst h; rw [setAt_same]; simp [Done, Nat.blt]
  · rw [setAt_ne h]
    unfold Done
    by_cases h' : j < n
    · rw [show Nat.blt j n = true from Nat.ble_eq_true_of_le h', show Nat.blt j (n + 1) = true from Nat.ble_eq_true_of_le (by omega)]
    · cases h1 : Nat.blt j n with
      | true => exact absurd (Nat.le_of_ble_eq_true h1) (by omega)
      | false =>
        cases h2 : Nat.blt j (n + 1) with
        | true => exact absurd (Nat.le_of_ble_eq_true h2) (by omega)
        | false => rfl
theorem Done.iff {n j : Nat} : Done n j = true ↔ j < n := ⟨fun h => Nat.le_of_ble_eq_true h, fun h => Nat.ble_eq_true_of_le h⟩
section
variable {P : Program} {ops : Array Oper} {fr0 : List RV} {hp0 : Hp} {nx0 : Nat} {trs : List Tr} {e0 : Env} {w0 : World} {Q : Exit → Act → World → Prop}
theorem Inv.start {a : Act} (hn : Names fr0 hp0 nx0) (hz : a.tmps.size = fr0.length) (ht : ∀ (s : Nat) r, fr0[s]? = some r → Fits e0 r a.tmps[s]?) (hd : a.defers = []) (hs : Sat e0 (hlook hp0) w0) {w : World} (hw : w = w0 ∨ w = { w0 with drawn := w0.drawn + 1 })
    {L : Nat → Bool} (hL : ∀ j, j < trs.length → L j = false) : Inv fr0 hp0 nx0 trs e0 w0 L a w e0 := by
  have h1 : ∀ s, ∀ ts : List Tr, ts.length ≤ trs.length → frL L fr0 s ts = fr0.getD s RV.und := by
    intro s ts
    induction ts with
    | nil => intro _; rfl
    | cons t ts ih =>
      intro h
      simp only [List.length_cons] at h
      simp only [frL, hL ts.length (by omega), Bool.false_and, cond_false]
      exact ih (by omega)
  have h2 : ∀ id, ∀ ts : List Tr, ts.length ≤ trs.length → hpL L hp0 id ts = hlook hp0 id := by
    intro id ts
    induction ts with
    | nil => intro _; rfl
    | cons t ts ih =>
      intro h
      simp only [List.length_cons] at h
      simp only [hpL, hL ts.length (by omega), cond_false]
      exact ih (by omega)
  have hheap : w.heap = w0.heap := by rcases hw with rfl | rfl <;> rfl
  have hsat : Sat e0 (hlook hp0) w := by
    rcases hw with rfl | rfl
    · exact hs
    · exact ⟨fun id o h => HO.holds_next (hs.holds id o h) (.refl _ _) (fun _ _ => .refl _ _) (fun _ _ => rfl) (Nat.le_refl _), hs.apart⟩
  refine ⟨hz, fun s h => ?_, hd, hsat.sub fun id o h => ?_, fun _ _ => .refl _ _, by rcases hw with rfl | rfl <;> rfl, by rcases hw with rfl | rfl <;> rfl, by rcases hw with rfl | rfl <;> rfl, by rw [hheap]; exact Nat.le_refl _, fun k _ _ => by rw [hheap], fun id ob b h hid => ?_, fun id ob b h hid => ?_⟩
  · rw [h1 s trs (Nat.le_refl _)]
    have := ht s fr0[s] (List.getElem?_eq_getElem h)
    rwa [List.getD_eq_getElem?_getD, List.getElem?_eq_getElem h]
  · have h' : hpL L hp0 id trs = some o := h
    rwa [h2 id trs (Nat.le_refl _)] at h'
  all_goals
    rw [h2 id trs (Nat.le_refl _)] at h
    have := (hn.hp id ob h).1
    omega
theorem wpOps_range (hn : Names fr0 hp0 nx0) (htr : TrsOk P ops fr0 hp0 nx0 trs) (hlen : trs.length = ops.size) (hQ : ∀ a w e, Inv fr0 hp0 nx0 trs e0 w0 (Done ops.size) a w e → Q .normal a w) :
    ∀ (m k : Nat) (a : Act) (w : World) (e : Env), k + m = ops.size → Inv fr0 hp0 nx0 trs e0 w0 (Done k) a w e → wpOps P ops Q (List.range' k m) a w := by
  intro m
  induction m with
  | zero => intro k a w e hk h; obtain rfl : k = ops.size := by omega
            exact hQ a w e h
  | succ m ih =>
    intro k a w e hk h
    rw [List.range'_succ, wpOps_cons]
    obtain ⟨t, ht⟩ := At.of_lt (trs := trs) (j := k) (by omega)
    refine step_op hn htr ht (by cases hd : Done k k with | false => rfl | true => exact absurd (Done.iff.1 hd) (by omega)) ⟨fun j u _ _ d _ _ => Done.iff, fun j u _ _ id _ _ => Done.iff, ?_, ?_, ?_, ?_⟩ h fun a' w' e' h' => ih (k + 1) a' w' e' (by omega) (by rw [← Done.set]; exact h')
    all_goals
      intro j u _ hL hlt
      exact absurd (Done.iff.1 hL) (by omega)
end
end Go.Proofs.Ytonlllijdbjkaaa

/- A symbolic way through the code of a call: a region in whatever order its edges allow. No condition. -/
set_option linter.unusedVariables false
namespace Go.Proofs.Ytonlllijdbjkaaa
open Go.RowKit

def hasBit (m i : Nat) : Bool := Nat.beq (Nat.land (Nat.shiftRight m i) 1) 1
/-- Which operations must be done ahead (a bit each). -/
def maskOf (o : Oper) (acc : List Nat) : Nat :=
  o.after.toList.foldl (fun m e => bif Region.binds .any e then Nat.lor (Nat.lor m (Nat.shiftLeft 1 e.on)) (bif Nat.blt e.on acc.length then acc.getD (acc.length - 1 - e.on) 0 else 0) else m) 0
def masks : List Oper → List Nat → List Nat
  | [], acc => acc
  | o :: r, acc => masks r (maskOf o acc :: acc)
def edgesBack : List Oper → Nat → Bool
  | [], _ => true
  | o :: r, k => o.after.toList.all (fun e => !Region.binds .any e || Nat.blt e.on k) && edgesBack r (k + 1)
def outside (t : Tr) (id : Nat) : Bool := Nat.blt id t.nx0 || Nat.ble t.nx1 id
/-- t, done earlier in the text, and u may change places. -/
def indep (t u : Tr) : Bool :=
  (match t.dst with | some d => !u.looks.any (Nat.beq d) && !dstIs u d | none => true) &&
  (match u.dst with | some d => !t.looks.any (Nat.beq d) | none => true) &&
  t.up.all (fun p => !u.R.any (Nat.beq p.1) && (hlook u.up p.1).isNone) && u.up.all (fun p => !t.R.any (Nat.beq p.1) && (hlook t.up p.1).isNone) &&
  u.v.ids.all (outside t) && u.up.all (fun p => outside t p.1 && p.2.ids.all (outside t))
def chk1 (t : Tr) (m : Nat) : List Tr → Bool
  | [] => true
  | u :: us => (hasBit m us.length || indep u t) && chk1 t m us
def chkAll : List Tr → List Nat → Bool
  | [], _ => true
  | t :: ts, m :: ms => chk1 t m ts && chkAll ts ms
  | _ :: _, [] => false

/-- j must be done ahead of i. -/
inductive Anc (ops : Array Oper) : Nat → Nat → Prop
  | step {i j : Nat} {o : Oper} {e : Edge} : ops[i]? = some o → e ∈ o.after → Region.binds .any e = true → e.on = j → Anc ops i j
  | far {i j k : Nat} {o : Oper} {e : Edge} : ops[i]? = some o → e ∈ o.after → Region.binds .any e = true → e.on = k → Anc ops k j → Anc ops i j

theorem hasBit_spec {m i : Nat} : hasBit m i = m.testBit i := by
  unfold hasBit
  show Nat.beq (m >>> i &&& 1) 1 = _
  simp only [Nat.testBit]
  rw [Nat.and_comm]
  have : 1 &&& (m >>> i) = 0 ∨ 1 &&& (m >>> i) = 1 := by
    have := Nat.and_le_left (n := 1) (m := m >>> i)
    omega
  rcases this with h | h <;> rw [h] <;> rfl
theorem maskOf_spec {ops : Array Oper} {i : Nat} {o : Oper} (ho : ops[i]? = some o) {acc : List Nat} (hacc : ∀ k m, acc.reverse[k]? = some m → ∀ j, m.testBit j = true → Anc ops k j) : ∀ j, (maskOf o acc).testBit j = true → Anc ops i j := by
  have key : ∀ (l : List Edge), (∀ e ∈ l, e ∈ o.after) → ∀ m, (∀ j, m.testBit j = true → Anc ops i j) → ∀ j,
      (l.foldl (fun m e => bif Region.binds .any e then Nat.lor (Nat.lor m (Nat.shiftLeft 1 e.on)) (bif Nat.blt e.on acc.length then acc.getD (acc.length - 1 - e.on) 0 else 0) else m) m).testBit j = true → Anc ops i j := by
    intro l
    induction l with
    | nil => intro _ m hm j hj; exact hm j hj
    | cons e l ih =>
      intro hl m hm j hj
      refine ih (fun e' he' => hl e' (List.mem_cons_of_mem _ he')) _ ?_ j hj
      intro j' hj'
      dsimp only at hj'
      cases hb : Region.binds .any e with
      | false => rw [hb] at hj'; exact hm j' hj'
      | true =>
        rw [hb] at hj'
        simp only [cond_true] at hj'
        change ((m ||| 1 <<< e.on) ||| _).testBit j' = true at hj'
        rw [Nat.testBit_or, Nat.testBit_or, Bool.or_eq_true, Bool.or_eq_true] at hj'
        rcases hj' with (h | h) | h
        · exact hm j' h
        · rw [Nat.testBit_shiftLeft] at h
          simp only [ge_iff_le, Bool.and_eq_true, decide_eq_true_eq, Nat.testBit_one_eq_true_iff_self_eq_zero] at h
          exact .step ho (hl e List.mem_cons_self) hb (by omega)
        · cases hlt : Nat.blt e.on acc.length with
          | false => rw [hlt] at h; simp at h
          | true =>
            rw [hlt] at h
            simp only [cond_true] at h
            have hlt' : e.on < acc.length := Nat.le_of_ble_eq_true hlt
            have hget : acc.reverse[e.on]? = some (acc.getD (acc.length - 1 - e.on) 0) := by
              rw [List.getElem?_reverse hlt', List.getD_eq_getElem?_getD, List.getElem?_eq_getElem (by omega)]
              rfl
            exact .far ho (hl e List.mem_cons_self) hb rfl (hacc _ _ hget j' h)
  exact key o.after.toList (fun e he => by simpa using he) 0 (fun j hj => by simp at hj)
theorem masks_spec {ops : Array Oper} : ∀ (l : List Oper) (acc : List Nat), (∀ k o, l[k]? = some o → ops[acc.length + k]? = some o) → (∀ k m, acc.reverse[k]? = some m → ∀ j, m.testBit j = true → Anc ops k j) →
    ∀ k m, (masks l acc).reverse[k]? = some m → ∀ j, m.testBit j = true → Anc ops k j := by
  intro l
  induction l with
  | nil => intro acc _ h; exact h
  | cons o l ih =>
    intro acc hl hacc
    refine ih (maskOf o acc :: acc) (fun k o' hk => ?_) ?_
    · have := hl (k + 1) o' (by simpa using hk)
      simpa [Nat.add_assoc, Nat.add_comm 1 k] using this
    · intro k m hk
      rw [List.reverse_cons, List.getElem?_append] at hk
      split at hk
      · exact hacc k m hk
      · rename_i hge
        simp only [List.length_reverse] at hge hk
        have hk0 : k = acc.length := by
          rcases Nat.lt_or_ge (k - acc.length) 1 with h | h
          · omega
          · rw [List.getElem?_eq_none (by simpa using h)] at hk; cases hk
        subst hk0
        simp only [Nat.sub_self, List.getElem?_cons_zero, Option.some.injEq] at hk
        subst hk
        exact maskOf_spec (by simpa using hl 0 o rfl) hacc
theorem chk_spec {ops : Array Oper} : ∀ (trs : List Tr) (ms : List Nat), chkAll trs ms = true → (∀ k m, ms.reverse[k]? = some m → ∀ j, m.testBit j = true → Anc ops k j) → ms.length = trs.length →
    ∀ i j t u, At trs i t → At trs j u → i < j → ¬ Anc ops j i → indep t u = true := by
  intro trs
  induction trs with
  | nil => intro ms _ _ _ i j t u h; exact absurd h.lt (by simp)
  | cons p trs ih =>
    intro ms h hms hlen i j t u hi hj hlt hanc
    cases ms with
    | nil => simp [chkAll] at h
    | cons m ms =>
      simp only [chkAll, Bool.and_eq_true] at h
      simp only [List.length_cons, Nat.add_right_cancel_iff] at hlen
      rcases At.cons.1 hj with ⟨rfl, rfl⟩ | hj'
      · rcases At.cons.1 hi with ⟨rfl, _⟩ | hi'
        · omega
        · have hm : ∀ j, m.testBit j = true → Anc ops trs.length j := hms trs.length m (by
            rw [List.reverse_cons, List.getElem?_append_right (by simp; omega)]; simp [hlen])
          have key : ∀ l : List Tr, chk1 u m l = true → ∀ i t, At l i t → ¬ Anc ops trs.length i → indep t u = true := by
            intro l
            induction l with
            | nil => intro _ i t h; exact absurd h.lt (by simp)
            | cons q l ihl =>
              intro hc i t hat hna
              simp only [chk1, Bool.and_eq_true, Bool.or_eq_true] at hc
              rcases At.cons.1 hat with ⟨rfl, rfl⟩ | hat'
              · rcases hc.1 with hb | hb
                · exact absurd (hm _ (by rw [← hasBit_spec]; exact hb)) hna
                · exact hb
              · exact ihl hc.2 i t hat' hna
          exact key trs h.1 i t hi' hanc
      · have hi' : At trs i t := by
          rcases At.cons.1 hi with ⟨rfl, _⟩ | hi'
          · have := hj'.lt; omega
          · exact hi'
        refine ih ms h.2 (fun k m' hk => hms k m' ?_) hlen i j t u hi' hj' hlt hanc
        rw [List.reverse_cons, List.getElem?_append_left]
        · exact hk
        · rcases Nat.lt_or_ge k ms.reverse.length with h' | h'
          · exact h'
          · rw [List.getElem?_eq_none h'] at hk; cases hk
structure Indep (t u : Tr) : Prop where
  d1 : ∀ d, t.dst = some d → d ∉ u.looks ∧ u.dst ≠ some d
  d2 : ∀ d, u.dst = some d → d ∉ t.looks
  up1 : ∀ id, hlook t.up id ≠ none → id ∉ u.R ∧ hlook u.up id = none
  up2 : ∀ id, hlook u.up id ≠ none → id ∉ t.R ∧ hlook t.up id = none
  v : ∀ id ∈ u.v.ids, id < t.nx0 ∨ t.nx1 ≤ id
  ups : ∀ p ∈ u.up, (p.1 < t.nx0 ∨ t.nx1 ≤ p.1) ∧ ∀ id ∈ p.2.ids, id < t.nx0 ∨ t.nx1 ≤ id
theorem outside_spec {t : Tr} {id : Nat} (h : outside t id = true) : id < t.nx0 ∨ t.nx1 ≤ id := by
  simp only [outside, Bool.or_eq_true] at h
  exact h.imp Nat.le_of_ble_eq_true Nat.le_of_ble_eq_true
theorem any_beq {l : List Nat} {d : Nat} (h : (!l.any (Nat.beq d)) = true) : d ∉ l := by
  intro hm
  have : l.any (Nat.beq d) = true := List.any_eq_true.2 ⟨d, hm, Nat.beq_refl d⟩
  rw [this] at h; cases h
theorem indep_spec {t u : Tr} (h : indep t u = true) : Indep t u := by
  simp only [indep, Bool.and_eq_true, List.all_eq_true] at h
  obtain ⟨⟨⟨⟨⟨h1, h2⟩, h3⟩, h4⟩, h5⟩, h6⟩ := h
  have mem : ∀ (hp : Hp) id, hlook hp id ≠ none → ∃ o, (id, o) ∈ hp := by
    intro hp id hne
    cases hh : hlook hp id with
    | none => exact absurd hh hne
    | some o => exact ⟨o, hlook_mem hh⟩
  refine ⟨fun d hd => ?_, fun d hd => ?_, fun id hid => ?_, fun id hid => ?_, fun id hid => outside_spec (h5 id hid), fun p hp => ⟨outside_spec (h6 p hp).1, fun id hid => outside_spec ((h6 p hp).2 id hid)⟩⟩
  · rw [hd] at h1
    simp only [Bool.and_eq_true] at h1
    refine ⟨any_beq h1.1, fun h' => ?_⟩
    rw [dstIs_spec.2 h'] at h1
    simp at h1
  · rw [hd] at h2
    exact any_beq h2
  · obtain ⟨o, ho⟩ := mem _ _ hid
    have := h3 _ ho
    exact ⟨any_beq this.1, by simpa using this.2⟩
  · obtain ⟨o, ho⟩ := mem _ _ hid
    have := h4 _ ho
    exact ⟨any_beq this.1, by simpa using this.2⟩
theorem edgesBack_spec {ops : Array Oper} : ∀ (l : List Oper) (k : Nat), edgesBack l k = true → (∀ j o, l[j]? = some o → ops[k + j]? = some o) → ∀ j o, l[j]? = some o → ∀ e ∈ o.after, Region.binds .any e = true → e.on < k + j := by
  intro l
  induction l with
  | nil => intro k _ _ j o h; simp at h
  | cons p l ih =>
    intro k h hl j o hj e he hb
    simp only [edgesBack, Bool.and_eq_true, List.all_eq_true, Bool.or_eq_true] at h
    cases j with
    | zero =>
      simp only [List.getElem?_cons_zero, Option.some.injEq] at hj
      subst hj
      rcases h.1 e (by simpa using he) with h' | h'
      · rw [hb] at h'; cases h'
      · exact Nat.le_of_ble_eq_true h'
    | succ j =>
      have := ih (k + 1) h.2 (fun j' o' hj' => by have := hl (j' + 1) o' (by simpa using hj'); simpa [Nat.add_assoc, Nat.add_comm 1 j'] using this) j o (by simpa using hj) e he hb
      omega

theorem filter_set_lt : ∀ (l : List Bool) (i : Nat) (h : i < l.length), l[i] = false → ((l.set i true).filter (· == false)).length + 1 ≤ (l.filter (· == false)).length := by
  intro l
  induction l with
  | nil => intro i h; simp at h
  | cons b l ih =>
    intro i h hb
    cases i with
    | zero =>
      simp only [List.getElem_cons_zero] at hb
      subst hb
      simp
    | succ i =>
      have := ih i (by simpa using h) (by simpa using hb)
      cases b <;> simp at this ⊢ <;> omega
section
variable {P : Program} {ops : Array Oper} {fr0 : List RV} {hp0 : Hp} {nx0 : Nat} {trs : List Tr} {e0 : Env} {w0 : World} {Q : Exit → Act → World → Prop}
theorem wpAny_inv (hn : Names fr0 hp0 nx0) (htr : TrsOk P ops fr0 hp0 nx0 trs) (hlen : trs.length = ops.size) (hback : edgesBack ops.toList 0 = true) (hchk : chkAll trs (masks ops.toList []) = true)
    (hml : (masks ops.toList []).length = trs.length) (hQ : ∀ L a w e, (∀ j, j < ops.size → L j = true) → Inv fr0 hp0 nx0 trs e0 w0 L a w e → Q .normal a w) :
    ∀ (f : Nat) (listed : Array Bool) (a : Act) (w : World) (e : Env), listed.size = ops.size → (listed.toList.filter (· == false)).length ≤ f →
      (∀ i, listed.getD i false = true → ∀ o, ops[i]? = some o → ∀ ed ∈ o.after, Region.binds .any ed = true → listed.getD ed.on false = true) →
      Inv fr0 hp0 nx0 trs e0 w0 (fun i => listed.getD i false) a w e → wpAny P .any ops Q f listed a w := by
  have hanc := masks_spec (ops := ops) ops.toList [] (fun k o h => by simpa using h) (fun k m h => by simp at h)
  have hind : ∀ i j t u, At trs i t → At trs j u → i < j → ¬ Anc ops j i → Indep t u := fun i j t u h1 h2 h3 h4 => indep_spec (chk_spec trs _ hchk hanc hml i j t u h1 h2 h3 h4)
  have hb := edgesBack_spec (ops := ops) ops.toList 0 hback (fun j o h => by simpa using h)
  have down : ∀ listed : Array Bool, (∀ i, listed.getD i false = true → ∀ o, ops[i]? = some o → ∀ ed ∈ o.after, Region.binds .any ed = true → listed.getD ed.on false = true) → ∀ i j, Anc ops i j → listed.getD i false = true → listed.getD j false = true := by
    intro listed hd i j h
    induction h with
    | step ho he hbi hon => intro hi; rw [← hon]; exact hd _ hi _ ho _ he hbi
    | far ho he hbi hon _ ih => intro hi; exact ih (by rw [← hon]; exact hd _ hi _ ho _ he hbi)
  -- where nothing is ready all is done
  have fin : ∀ listed : Array Bool, listed.size = ops.size → Region.ready .any ops listed = [] → ∀ j, j < ops.size → listed.getD j false = true := by
    intro listed hs hr j
    induction j using Nat.strongRecOn with
    | _ j ih =>
      intro hj
      cases hl : listed.getD j false with
      | true => rfl
      | false =>
        exfalso
        have : j ∈ Region.ready .any ops listed := by
          unfold Region.ready
          refine List.mem_filter.2 ⟨List.mem_range.2 hj, ?_⟩
          have h1 : listed.getD j true = false := by
            rw [Array.getD_eq_getD_getElem?] at hl ⊢
            rw [Array.getElem?_eq_getElem (by omega)] at hl ⊢
            exact hl
          have h2 : ops[j]? = some ops[j] := Array.getElem?_eq_getElem hj
          rw [h1, h2]
          simp only [Bool.not_false, Option.map_some, Option.getD_some, Bool.true_and]
          rw [Array.all_eq_true_iff_forall_mem]
          intro ed hed
          cases hbd : Region.binds .any ed with
          | false => rfl
          | true =>
            have := hb j ops[j] (by simp [hj]) ed hed hbd
            rw [ih ed.on (by omega) (by omega)]; rfl
        rw [hr] at this
        cases this
  intro f
  induction f with
  | zero =>
    intro listed a w e hs hf hd hinv
    have hall : ∀ j, j < ops.size → listed.getD j false = true := by
      intro j hj
      cases hl : listed.getD j false with
      | true => rfl
      | false =>
        exfalso
        have hm : listed[j]'(by omega) ∈ listed.toList.filter (· == false) := by
          rw [Array.getD_eq_getD_getElem?, Array.getElem?_eq_getElem (by omega)] at hl
          simp only [Option.getD_some] at hl
          rw [hl]
          refine List.mem_filter.2 ⟨?_, rfl⟩
          have h3 : listed[j]'(by omega) ∈ listed.toList := by simp
          rw [hl] at h3; exact h3
        rw [List.length_eq_zero_iff.1 (Nat.le_zero.1 hf)] at hm
        cases hm
    refine ⟨?_, hQ _ _ _ e hall hinv⟩
    unfold Region.ready
    rw [List.filter_eq_nil_iff]
    intro i hi
    have hi' := List.mem_range.1 hi
    have h1 := hall i hi'
    rw [Array.getD_eq_getD_getElem?, Array.getElem?_eq_getElem (by omega)] at h1 ⊢
    simp only [Option.getD_some] at h1 ⊢
    rw [h1]; simp
  | succ f ih =>
    intro listed a w e hs hf hd hinv
    refine ⟨fun hr => hQ _ _ _ e (fin listed hs hr) hinv, fun i hi => ?_⟩
    obtain ⟨hun, o, ho, hall⟩ := mem_ready.1 hi
    have hilt : i < ops.size := by
      rcases Nat.lt_or_ge i ops.size with h | h
      · exact h
      · rw [Array.getElem?_eq_none h] at ho; cases ho
    have hif : listed.getD i false = false := by
      rw [Array.getD_eq_getD_getElem?] at hun ⊢
      rw [Array.getElem?_eq_getElem (by omega)] at hun ⊢
      exact hun
    obtain ⟨t, ht⟩ := At.of_lt (trs := trs) (j := i) (by omega)
    have hdown := down listed hd
    have hanci : ∀ j, Anc ops i j → listed.getD j false = true := by
      intro j hj
      cases hj with
      | step ho' he hbi hon => rw [ho] at ho'; cases ho'; rw [← hon]; exact hall _ he hbi
      | far ho' he hbi hon hk => rw [ho] at ho'; cases ho'; exact hdown _ _ hk (by rw [← hon]; exact hall _ he hbi)
    -- whatever is done and stands behind it in the text may change places with it
    have hlater : ∀ j u, At trs j u → listed.getD j false = true → i < j → Indep t u := fun j u hu hl hlt => hind i j t u ht hu hlt fun hA => by rw [hdown _ _ hA hl] at hif; cases hif
    have hearlier : ∀ j u, At trs j u → listed.getD j false = false → j < i → Indep u t := fun j u hu hl hlt => hind j i u t hu ht hlt fun hA => by rw [hanci _ hA] at hl; cases hl
    have hsetL : (fun j => (listed.setIfInBounds i true).getD j false) = setAt (fun j => listed.getD j false) i := by
      funext j
      by_cases h : j = i
      · subst h
        rw [setAt_same, Array.getD_eq_getD_getElem?, Array.getElem?_setIfInBounds_self_of_lt (by omega)]
        rfl
      · rw [setAt_ne h, getD_set_ne false (fun h' => h h'.symm)]
    refine step_op hn htr ht hif ⟨fun j u hu hne d hd' hm => ?_, fun j u hu hne id hid hup => ?_, fun j u hu hl hlt d hd' => ?_, fun j u hu hl hlt id hid => ?_, fun j u hu hl hlt => ?_, fun j u hu hl hlt => ?_⟩ hinv fun a' w' e' hinv' => ?_
    · constructor
      · intro hl
        rcases Nat.lt_or_gt_of_ne hne with h | h
        · exact h
        · exact absurd hm ((hlater j u hu hl h).d2 d hd')
      · intro hlt
        cases hl : listed.getD j false with
        | true => rfl
        | false => exact absurd hm ((hearlier j u hu hl hlt).d1 d hd').1
    · constructor
      · intro hl
        rcases Nat.lt_or_gt_of_ne hne with h | h
        · exact h
        · exact absurd hid ((hlater j u hu hl h).up2 id hup).1
      · intro hlt
        cases hl : listed.getD j false with
        | true => rfl
        | false => exact absurd hid ((hearlier j u hu hl hlt).up1 id hup).1
    · exact ((hlater j u hu hl hlt).d1 d hd').2
    · exact ((hlater j u hu hl hlt).up1 id hid).2
    · exact (hlater j u hu hl hlt).v
    · exact (hlater j u hu hl hlt).ups
    · refine ih _ _ _ e' (by simp [hs]) ?_ ?_ (by rw [hsetL]; exact hinv')
      · have hlt : i < listed.toList.length := by simpa using (show i < listed.size by omega)
        have h1 : listed.toList[i] = false := by
          rw [Array.getD_eq_getD_getElem?, Array.getElem?_eq_getElem (by omega)] at hif
          simpa using hif
        have h2 : (listed.setIfInBounds i true).toList = listed.toList.set i true := by simp
        rw [h2]
        have := filter_set_lt listed.toList i hlt h1
        omega
      · intro k hk o' ho' ed hed hbd
        by_cases hki : k = i
        · subst hki
          rw [ho] at ho'; cases ho'
          have := hall ed hed hbd
          by_cases he : ed.on = k
          · rw [he]; exact hk
          · rw [getD_set_ne false (fun h' => he h'.symm)]; exact this
        · rw [getD_set_ne false (fun h' => hki h'.symm)] at hk
          have := hd k hk o' ho' ed hed hbd
          by_cases he : ed.on = i
          · rw [he, hif] at this; cases this
          · rw [getD_set_ne false (fun h' => he h'.symm)]; exact this
end
end Go.Proofs.Ytonlllijdbjkaaa

/- A symbolic way through the code of a call: what a piece of code does to slots and blocks. No condition. -/
set_option linter.unusedVariables false
namespace Go.Proofs.Ytonlllijdbjkaaa
open Go.RowKit

structure St where
  fr : List RV
  hp : Hp
  nx : Nat
  W : List Nat
inductive Ex where
  | normal
  | exit (id : Nat)
  | ret
def Ex.to : Ex → Exit
  | .normal => .normal
  | .exit id => .exit id
  | .ret => .ret
/-- An old block that was one's own and was written; an old block that is read alone. -/
def WroteW (W : List Nat) (H0 : Nat → Option HO) (n0 : Nat) (e : Env) (b : Nat) : Prop := ∃ id0 ∈ W, id0 < n0 ∧ ∃ o0, H0 id0 = some o0 ∧ o0.owns e id0 b
def ReadsH (H0 : Nat → Option HO) (n0 : Nat) (e : Env) (b : Nat) : Prop := ∃ id0 o0, id0 < n0 ∧ H0 id0 = some o0 ∧ o0.foot e id0 b ∧ ¬ o0.owns e id0 b
theorem WroteW.same {W W' : List Nat} {H0 : Nat → Option HO} {n0 : Nat} {e e' : Env} {b : Nat} (hs : ∀ id, id < n0 → e.same e' id) (hW : ∀ id ∈ W, id < n0 → id ∈ W') (h : WroteW W H0 n0 e b) : WroteW W' H0 n0 e' b := by
  obtain ⟨id0, h2, h3, o0, h4, h5⟩ := h
  exact ⟨id0, hW id0 h2 h3, h3, o0, h4, (HO.owns_same (hs id0 h3)).2 h5⟩
theorem ReadsH.same {H0 : Nat → Option HO} {n0 : Nat} {e e' : Env} {b : Nat} (hs : ∀ id, id < n0 → e.same e' id) (h : ReadsH H0 n0 e b) : ReadsH H0 n0 e' b := by
  obtain ⟨id0, o0, h3, h4, h5, h6⟩ := h
  exact ⟨id0, o0, h3, h4, (HO.foot_same (hs id0 h3)).2 h5, fun h => h6 ((HO.owns_same (hs id0 h3)).1 h)⟩
/-- Where a call's code stands: n0, base, H0 are the first free name, the first new block, and what lay under the names, as the call began. -/
structure Stands (n0 base : Nat) (H0 : Nat → Option HO) (st : St) (e : Env) (a : Act) (w : World) : Prop where
  size : a.tmps.size = st.fr.length
  fr : ∀ (s : Nat) r, st.fr[s]? = some r → Fits e r a.tmps[s]?
  defers : a.defers = []
  sat : Sat e (hlook st.hp) w
  own : ∀ id o b, hlook st.hp id = some o → n0 ≤ id → o.owns e id b → base ≤ b ∨ WroteW st.W H0 n0 e b
  foot : ∀ id o b, hlook st.hp id = some o → n0 ≤ id → o.foot e id b → base ≤ b ∨ WroteW st.W H0 n0 e b ∨ ReadsH H0 n0 e b
  old : ∀ id o, hlook st.hp id = some o → id < n0 → ∃ o0, H0 id = some o0 ∧ Kle o0 o
structure Moves (n0 base : Nat) (H0 : Nat → Option HO) (st st' : St) (e e' : Env) (w w' : World) : Prop where
  agree : ∀ id, id < n0 ∨ st'.nx ≤ id → e.same e' id
  os : w'.os = w.os
  tape : w'.tape = w.tape
  output : w'.output = w.output
  size : w.heap.size ≤ w'.heap.size
  fr : ∀ k, k < base → ¬ WroteW st'.W H0 n0 e k → w'.heap[k]? = w.heap[k]?
/-- Code that leads from st into one of the places of R. -/
def CodeTo (P : Program) (n0 : Nat) (c : Code) (st : St) (R : Ex → St → Prop) : Prop :=
  Names st.fr st.hp st.nx → n0 ≤ st.nx → ∀ (base : Nat) (H0 : Nat → Option HO) (e : Env) (a : Act) (w : World), base ≤ w.heap.size → Stands n0 base H0 st e a w →
    ∀ Q : Exit → Act → World → Prop, (∀ ex st' e' a' w', R ex st' → Names st'.fr st'.hp st'.nx → st.nx ≤ st'.nx → (∀ id ∈ st.W, id < n0 → id ∈ st'.W) → Moves n0 base H0 st st' e e' w w' → Stands n0 base H0 st' e' a' w' → Q ex.to a' w') → c.wp P Q a w

theorem Moves.refl (n0 base : Nat) (H0 : Nat → Option HO) (st : St) (e : Env) (w : World) : Moves n0 base H0 st st e e w w := ⟨fun _ _ => .refl _ _, rfl, rfl, rfl, Nat.le_refl _, fun _ _ _ => rfl⟩
theorem Moves.trans {n0 base : Nat} {H0 : Nat → Option HO} {s1 s2 s3 : St} {e1 e2 e3 : Env} {w1 w2 w3 : World} (h23 : s2.nx ≤ s3.nx) (hW : ∀ id ∈ s2.W, id < n0 → id ∈ s3.W)
    (h : Moves n0 base H0 s1 s2 e1 e2 w1 w2) (k : Moves n0 base H0 s2 s3 e2 e3 w2 w3) : Moves n0 base H0 s1 s3 e1 e3 w1 w3 := by
  refine ⟨fun id hid => ?_, k.os.trans h.os, k.tape.trans h.tape, k.output.trans h.output, Nat.le_trans h.size k.size, fun b hb hne => ?_⟩
  · exact (h.agree id (hid.imp (fun h => h) fun h => Nat.le_trans h23 h)).trans (k.agree id hid)
  · rw [k.fr b hb fun hw => hne (hw.same (fun id hid => (h.agree id (.inl hid)).symm) fun _ h _ => h)]
    exact h.fr b hb fun hw => hne (hw.same (fun _ _ => .refl _ _) hW)
theorem CodeTo.mono {P : Program} {n0 : Nat} {c : Code} {st : St} {R R' : Ex → St → Prop} (h : CodeTo P n0 c st R) (hr : ∀ ex s, R ex s → R' ex s) : CodeTo P n0 c st R' :=
  fun hn hn0 base H0 e a w h2 hs Q hQ => h hn hn0 base H0 e a w h2 hs Q fun ex st' e' a' w' hR => hQ ex st' e' a' w' (hr _ _ hR)
theorem CodeTo.skip {P : Program} {n0 : Nat} {st : St} {R : Ex → St → Prop} (h : R .normal st) : CodeTo P n0 .skip st R :=
  fun hn hn0 base H0 e a w _ hs Q hQ => wp_skip (hQ .normal st e a w h hn (Nat.le_refl _) (fun _ h _ => h) (.refl ..) hs)
theorem CodeTo.label {P : Program} {n0 : Nat} {st : St} {l : Nat} {R : Ex → St → Prop} (h : R .normal st) : CodeTo P n0 (.label l) st R :=
  fun hn hn0 base H0 e a w _ hs Q hQ => wp_label (hQ .normal st e a w h hn (Nat.le_refl _) (fun _ h _ => h) (.refl ..) hs)
theorem CodeTo.exit {P : Program} {n0 : Nat} {st : St} {id : Nat} {R : Ex → St → Prop} (h : R (.exit id) st) : CodeTo P n0 (.exit id) st R :=
  fun hn hn0 base H0 e a w _ hs Q hQ => wp_exit (hQ (.exit id) st e a w h hn (Nat.le_refl _) (fun _ h _ => h) (.refl ..) hs)
theorem CodeTo.ret {P : Program} {n0 : Nat} {st : St} {R : Ex → St → Prop} (h : R .ret st) : CodeTo P n0 .ret st R :=
  fun hn hn0 base H0 e a w _ hs Q hQ => wp_ret (hQ .ret st e a w h hn (Nat.le_refl _) (fun _ h _ => h) (.refl ..) hs)
theorem CodeTo.seq {P : Program} {n0 : Nat} {x y : Code} {st : St} {R R' : Ex → St → Prop} (hx : CodeTo P n0 x st R) (hy : ∀ s, R .normal s → CodeTo P n0 y s R') (ho : ∀ ex s, ex ≠ .normal → R ex s → R' ex s) : CodeTo P n0 (.seq x y) st R' := by
  intro hn hn0 base H0 e a w h2 hs Q hQ
  refine wp_seq (hx hn hn0 base H0 e a w h2 hs _ fun ex s e' a' w' hR hn' hnx hW hm hs' => ?_)
  cases ex with
  | normal =>
    show y.wp P Q a' w'
    refine hy s hR hn' (Nat.le_trans hn0 hnx) base H0 e' a' w' (Nat.le_trans h2 hm.size) hs' Q fun ex' s' e'' a'' w'' hR' hn'' hnx' hW' hm' hs'' => ?_
    exact hQ ex' s' e'' a'' w'' hR' hn'' (Nat.le_trans hnx hnx') (fun id h hlt => hW' id (hW id h hlt) hlt) (hm.trans hnx' hW' hm') hs''
  | exit i => exact hQ _ _ e' a' w' (ho _ _ (by intro h; cases h) hR) hn' hnx hW hm hs'
  | ret => exact hQ _ _ e' a' w' (ho _ _ (by intro h; cases h) hR) hn' hnx hW hm hs'
theorem CodeTo.block {P : Program} {n0 : Nat} {c : Code} {st : St} {id : Nat} {R R' : Ex → St → Prop} (hx : CodeTo P n0 c st R) (hn : ∀ s, R .normal s → R' .normal s) (he : ∀ s, R (.exit id) s → R' .normal s) (ho : ∀ i s, i ≠ id → R (.exit i) s → R' (.exit i) s) (hr : ∀ s, R .ret s → R' .ret s) :
    CodeTo P n0 (.block id c) st R' := by
  intro hnm hn0 base H0 e a w h2 hs Q hQ
  refine wp_block (hx hnm hn0 base H0 e a w h2 hs _ fun ex s e' a' w' hR hn' hnx hW hm hs' => ?_)
  cases ex with
  | normal => exact hQ .normal s e' a' w' (hn _ hR) hn' hnx hW hm hs'
  | exit i =>
    show (if i = id then _ else _)
    by_cases hi : i = id
    · subst hi; rw [if_pos rfl]; exact hQ .normal s e' a' w' (he _ hR) hn' hnx hW hm hs'
    · rw [if_neg hi]; exact hQ (.exit i) s e' a' w' (ho _ _ hi hR) hn' hnx hW hm hs'
  | ret => exact hQ .ret s e' a' w' (hr _ hR) hn' hnx hW hm hs'
theorem CodeTo.scope {P : Program} {n0 : Nat} {c : Code} {st : St} {R : Ex → St → Prop} (hx : CodeTo P n0 c st R) : CodeTo P n0 (.scope c) st R := by
  intro hnm hn0 base H0 e a w h2 hs Q hQ
  refine wp_scope_straight (hx hnm hn0 base H0 e a w h2 hs _ fun ex s e' a' w' hR hn' hnx hW hm hs' => ?_)
  have := hQ ex s e' a' w' hR hn' hnx hW hm hs'
  cases ex <;> exact this
theorem Stands.eval {n0 base : Nat} {H0 : Nat → Option HO} {st : St} {e : Env} {a : Act} {w : World} (hs : Stands n0 base H0 st e a w) (c : Operand) (hd : (opnd st.fr c).isDead = false) : a.eval c = (opnd st.fr c).den e := by
  cases c with
  | tmp s =>
    simp only [opnd, List.getD_eq_getElem?_getD] at hd ⊢
    simp only [Act.eval, Array.getD_eq_getD_getElem?]
    cases hh : st.fr[s]? with
    | none => rw [Array.getElem?_eq_none (by rw [hs.size]; exact List.getElem?_eq_none_iff.1 hh)]; rfl
    | some r =>
      rw [hh] at hd
      rw [(hs.fr s r hh).resolve_left (by simp only [Option.getD_some] at hd; rw [hd]; simp)]
      rfl
  | const v => simp only [Act.eval, opnd, RV.den_ofVal]
  | global g => rfl
  | func f => rfl
theorem CodeTo.cond {P : Program} {n0 : Nat} {x y : Code} {st : St} {R : Ex → St → Prop} {c : Operand} {k b : Bool} (hc : opnd st.fr c = .sv (.one (.val k (.bool b)))) (hx : CodeTo P n0 (if b then x else y) st R) : CodeTo P n0 (.cond c x y) st R := by
  intro hnm hn0 base H0 e a w h2 hs Q hQ
  refine wp_cond (t := b) ?_ (hx hnm hn0 base H0 e a w h2 hs Q hQ)
  rw [hs.eval c (by rw [hc]; rfl), hc]; rfl
/-- A loop, round by round. -/
def RoundsTo (P : Program) (n0 : Nat) (c : Code) (m : Nat) (st : St) (R : Ex → St → Prop) : Prop :=
  Names st.fr st.hp st.nx → n0 ≤ st.nx → ∀ (base : Nat) (H0 : Nat → Option HO) (e : Env) (a : Act) (w : World), base ≤ w.heap.size → Stands n0 base H0 st e a w →
    ∀ Q : Exit → Act → World → Prop, (∀ ex st' e' a' w', R ex st' → Names st'.fr st'.hp st'.nx → st.nx ≤ st'.nx → (∀ id ∈ st.W, id < n0 → id ∈ st'.W) → Moves n0 base H0 st st' e e' w w' → Stands n0 base H0 st' e' a' w' → Q ex.to a' w') → Code.rounds P c Q m a w
theorem RoundsTo.round {P : Program} {n0 : Nat} {c : Code} {m : Nat} {st : St} {R R' : Ex → St → Prop} (hx : CodeTo P n0 c st R) (ha : ∀ s, R .normal s → RoundsTo P n0 c m s R') (ho : ∀ ex s, ex ≠ .normal → R ex s → R' ex s) : RoundsTo P n0 c (m + 1) st R' := by
  intro hn hn0 base H0 e a w h2 hs Q hQ
  refine hx hn hn0 base H0 e a w h2 hs _ fun ex s e' a' w' hR hn' hnx hW hm hs' => ?_
  cases ex with
  | normal =>
    show Code.rounds P c Q m a' w'
    refine ha s hR hn' (Nat.le_trans hn0 hnx) base H0 e' a' w' (Nat.le_trans h2 hm.size) hs' Q fun ex' s' e'' a'' w'' hR' hn'' hnx' hW' hm' hs'' => ?_
    exact hQ ex' s' e'' a'' w'' hR' hn'' (Nat.le_trans hnx hnx') (fun id h hlt => hW' id (hW id h hlt) hlt) (hm.trans hnx' hW' hm') hs''
  | exit i => exact hQ _ _ e' a' w' (ho _ _ (by intro h; cases h) hR) hn' hnx hW hm hs'
  | ret => exact hQ _ _ e' a' w' (ho _ _ (by intro h; cases h) hR) hn' hnx hW hm hs'
theorem CodeTo.loop {P : Program} {n0 : Nat} {c : Code} {m : Nat} {st : St} {R : Ex → St → Prop} (h : RoundsTo P n0 c m st R) : CodeTo P n0 (.loop c) st R :=
  fun hn hn0 base H0 e a w h2 hs Q hQ => wp_loop_rounds m (h hn hn0 base H0 e a w h2 hs Q hQ)

def wsT (W0 : List Nat) : List Tr → List Nat
  | [] => W0
  | t :: ts => t.W ++ wsT W0 ts
theorem wsT_old {W0 : List Nat} {trs : List Tr} : ∀ id ∈ W0, id ∈ wsT W0 trs := by
  induction trs with
  | nil => exact fun _ h => h
  | cons t ts ih => exact fun id h => List.mem_append_right _ (ih id h)
theorem wsT_at {W0 : List Nat} {trs : List Tr} {j : Nat} {u : Tr} (h : At trs j u) : ∀ id ∈ u.W, id ∈ wsT W0 trs := by
  induction trs with
  | nil => exact absurd h.lt (by simp)
  | cons t ts ih =>
    rcases At.cons.1 h with ⟨_, rfl⟩ | h
    · exact fun id hid => List.mem_append_left _ hid
    · exact fun id hid => List.mem_append_right _ (ih h id hid)
theorem masks_length : ∀ (l : List Oper) (acc : List Nat), (masks l acc).length = l.length + acc.length := by
  intro l
  induction l with
  | nil => intro acc; simp [masks]
  | cons o l ih => intro acc; simp only [masks, ih, List.length_cons]; omega
theorem CodeTo.region {P : Program} {n0 : Nat} {id : Nat} {ops : Array Oper} {draw : Bool} {st : St} {trs : List Tr} {R : Ex → St → Prop} (htr : TrsOk P ops st.fr st.hp st.nx trs) (hlen : trs.length = ops.size)
    (hd : draw = true → P.follows .mixedOrders = true ∧ edgesBack ops.toList 0 = true ∧ chkAll trs (masks ops.toList []) = true) (hR : R .normal ⟨frT st.fr trs, hpT st.hp trs, nxT st.nx trs, wsT st.W trs⟩) :
    CodeTo P n0 (.region id ops draw) st R := by
  intro hn hn0 base H0 e a w h2 hs Q hQ
  have hnm := htr.names hn
  have hle := hnm.2
  have conv : ∀ b, Wrote trs st.hp st.nx e b → base ≤ b ∨ WroteW (wsT st.W trs) H0 n0 e b := by
    rintro b ⟨j, u, hj, id0, h1, h3, o0, h4, h5⟩
    by_cases h6 : id0 < n0
    · obtain ⟨oH, h7, h8⟩ := hs.old id0 o0 h4 h6
      exact .inr ⟨id0, wsT_at hj id0 h1, h6, oH, h7, h8.owns h5⟩
    · exact (hs.own id0 o0 b h4 (by omega) h5).imp (fun h => h) fun h => h.same (fun _ _ => .refl _ _) fun i hi _ => wsT_old i hi
  have convR : ∀ b, Reads st.hp st.nx e b → base ≤ b ∨ WroteW (wsT st.W trs) H0 n0 e b ∨ ReadsH H0 n0 e b := by
    rintro b ⟨id0, o0, h3, h4, h5, h5'⟩
    by_cases h6 : id0 < n0
    · obtain ⟨oH, h7, h8⟩ := hs.old id0 o0 h4 h6
      have h9 := h8 e id0 b h5
      exact .inr (.inr ⟨id0, oH, h6, h7, h9.1, fun h => h5' (h9.2.2 h)⟩)
    · exact (hs.foot id0 o0 b h4 (by omega) h5).imp (fun h => h) (Or.imp (fun h => h.same (fun _ _ => .refl _ _) fun i hi _ => wsT_old i hi) fun h => h)
  have fin : ∀ L a' w' e', (∀ j, j < ops.size → L j = true) → Inv st.fr st.hp st.nx trs e w L a' w' e' → Q .normal a' w' := by
    intro L a' w' e' hL hinv
    have hfr : ∀ s, frL L st.fr s trs = (frT st.fr trs).getD s RV.und := fun s => frL_all htr fun j u hj _ => hL j (by have := hj.lt; omega)
    have hhp : ∀ i, hpL L st.hp i trs = hlook (hpT st.hp trs) i := fun i => hpL_all fun j u hj _ => hL j (by have := hj.lt; omega)
    have hlow : ∀ i, i < n0 → e.same e' i := fun i hi => hinv.agree i (.inl (by omega))
    have hlow' : ∀ i, i < st.nx → e'.same e i := fun i hi => (hinv.agree i (.inl hi)).symm
    refine hQ .normal _ e' a' w' hR hnm.1 hle (fun i hi _ => wsT_old i hi) ⟨fun i hi => hinv.agree i (hi.imp (fun h => by omega) fun h => h), hinv.os, hinv.tape, hinv.output, hinv.grown, fun k hk hne => ?_⟩
      ⟨?_, fun s r hr => ?_, hinv.defers, hinv.sat.sub fun i o h => (hhp i).trans h, fun i o b ho hi hf => ?_, fun i o b ho hi hf => ?_, fun i o ho hi => ?_⟩
    · refine hinv.fr k (Nat.lt_of_lt_of_le hk h2) fun hw => ?_
      rcases conv k hw with h | h
      · omega
      · exact hne h
    · rw [hinv.size, frT_length]
    · have hlt : s < st.fr.length := by
        rcases Nat.lt_or_ge s st.fr.length with h | h
        · exact h
        · rw [List.getElem?_eq_none (by rw [frT_length]; exact h)] at hr; cases hr
      have := hinv.slot s hlt
      rw [hfr s, List.getD_eq_getElem?_getD, hr] at this
      exact this
    · by_cases hi0 : st.nx ≤ i
      · rcases hinv.own i o b ((hhp i).trans ho) hi0 hf with h3 | h3
        · exact .inl (Nat.le_trans h2 h3)
        · exact (conv b (h3.same hlow')).imp (fun h => h) fun h => h.same hlow fun _ h _ => h
      · obtain ⟨o0, h3, h4⟩ := hpT_old hn htr i o (by omega) ho
        exact (hs.own i o0 b h3 hi ((HO.owns_same (hinv.agree i (.inl (by omega)))).1 (h4.owns hf))).imp (fun h => h) fun h => h.same hlow fun i hi _ => wsT_old i hi
    · by_cases hi0 : st.nx ≤ i
      · rcases hinv.foot i o b ((hhp i).trans ho) hi0 hf with h3 | h3 | h3
        · exact .inl (Nat.le_trans h2 h3)
        · exact (conv b (h3.same hlow')).imp (fun h => h) fun h => .inl (h.same hlow fun _ h _ => h)
        · exact (convR b (h3.same hlow')).imp (fun h => h) (Or.imp (fun h => h.same hlow fun _ h _ => h) fun h => h.same hlow)
      · obtain ⟨o0, h3, h4⟩ := hpT_old hn htr i o (by omega) ho
        exact (hs.foot i o0 b h3 hi ((HO.foot_same (hinv.agree i (.inl (by omega)))).1 (h4 _ _ _ hf).1)).imp (fun h => h) (Or.imp (fun h => h.same hlow fun i hi _ => wsT_old i hi) fun h => h.same hlow)
    · obtain ⟨o0, h3, h4⟩ := hpT_old hn htr i o (by omega) ho
      obtain ⟨oH, h5, h6⟩ := hs.old i o0 h3 hi
      exact ⟨oH, h5, h6.trans h4⟩
  cases draw with
  | false =>
    refine wp_region ?_
    have := wpOps_range (Q := Q) hn htr hlen (fun a w e' h => fin _ a w e' (fun j hj => Done.iff.2 hj) h) ops.size 0 a w e (by omega)
      (Inv.start hn hs.size hs.fr hs.defers hs.sat (.inl rfl) (fun j _ => by cases h : Done 0 j with | false => rfl | true => exact absurd (Done.iff.1 h) (by omega)))
    rwa [← List.range_eq_range'] at this
  | true =>
    obtain ⟨hm, hb, hc⟩ := hd rfl
    refine wp_region_any hm ?_
    refine wpAny_inv hn htr hlen hb hc (by rw [masks_length, hlen]; simp) (fun L a' w' e' hL h => fin L a' w' e' hL h) ops.size _ a _ e (by simp) (by
      refine Nat.le_trans (List.length_filter_le _ _) (by simp)) (fun i hi => ?_) (Inv.start hn hs.size hs.fr hs.defers hs.sat (.inr rfl) (fun j _ => getD_replicate_false _ _))
    rw [getD_replicate_false] at hi; cases hi
end Go.Proofs.Ytonlllijdbjkaaa
