/- A symbolic way through the code of a call: a region, in the text's order or in whatever order its edges allow. No condition. -/
import Derived.Test.YthgneojhhocflaaEng3
import Derived.Orders
set_option linter.unusedVariables false
namespace Go.Proofs.Ythgneojhhocflaa
open Go.RowKit

/-- What one operation did, in the text's order. -/
structure Tr where
  dst : Option Nat
  v : RV
  up : Hp
  W : List Nat
  R : List Nat
  nx0 : Nat
  nx1 : Nat
  looks : List Nat

def opnd (fr : List RV) : Operand → RV
  | .tmp t => fr.getD t RV.und
  | .const v => RV.ofVal true v
  | .global g => .sv (.one (.val true (.pointer (some ⟨g, 0, none⟩))))
  | .func f => .sv (.one (.fn f []))
def putL (fr : List RV) (d : Option Nat) (v : RV) : List RV := match d with | some d => fr.set d v | none => fr
def frT (fr0 : List RV) : List Tr → List RV
  | [] => fr0
  | t :: ts => putL (frT fr0 ts) t.dst t.v
def hpT (hp0 : Hp) : List Tr → Hp
  | [] => hp0
  | t :: ts => t.up ++ hpT hp0 ts
def nxT (nx0 : Nat) : List Tr → Nat
  | [] => nx0
  | t :: _ => t.nx1
def dstIs (t : Tr) (s : Nat) : Bool := match t.dst with | some d => Nat.beq d s | none => false
def frL (L : Nat → Bool) (fr0 : List RV) (s : Nat) : List Tr → RV
  | [] => fr0.getD s RV.und
  | t :: ts => bif L ts.length && dstIs t s then t.v else frL L fr0 s ts
def hpL (L : Nat → Bool) (hp0 : Hp) (id : Nat) : List Tr → Option HO
  | [] => hlook hp0 id
  | t :: ts => bif L ts.length then (match hlook t.up id with | some o => some o | none => hpL L hp0 id ts) else hpL L hp0 id ts
/-- The j-th operation (from the first on) did t. -/
def At (trs : List Tr) (j : Nat) (t : Tr) : Prop := ∃ pre ts, trs = pre ++ t :: ts ∧ ts.length = j
theorem At.cons {t u : Tr} {ts : List Tr} {j : Nat} : At (t :: ts) j u ↔ (j = ts.length ∧ u = t) ∨ At ts j u := by
  constructor
  · rintro ⟨pre, r, h, hl⟩
    cases pre with
    | nil => simp only [List.nil_append, List.cons.injEq] at h; obtain ⟨rfl, rfl⟩ := h; exact .inl ⟨hl.symm, rfl⟩
    | cons p pre => simp only [List.cons_append, List.cons.injEq] at h; obtain ⟨rfl, rfl⟩ := h; exact .inr ⟨pre, r, rfl, hl⟩
  · rintro (⟨rfl, rfl⟩ | ⟨pre, r, rfl, hl⟩)
    · exact ⟨[], _, rfl, rfl⟩
    · exact ⟨t :: pre, r, rfl, hl⟩
theorem At.lt {trs : List Tr} {j : Nat} {t : Tr} (h : At trs j t) : j < trs.length := by
  obtain ⟨pre, ts, rfl, rfl⟩ := h; simp; omega
theorem At.one {trs : List Tr} {j : Nat} {t u : Tr} (h : At trs j t) (h' : At trs j u) : t = u := by
  induction trs with
  | nil => obtain ⟨pre, ts, h, _⟩ := h; simp at h
  | cons p trs ih =>
    rcases At.cons.1 h with ⟨h1, rfl⟩ | h1 <;> rcases At.cons.1 h' with ⟨h2, rfl⟩ | h2
    · rfl
    · have := h2.lt; omega
    · have := h1.lt; omega
    · exact ih h1 h2
theorem At.of_lt {trs : List Tr} {j : Nat} (h : j < trs.length) : ∃ t, At trs j t := by
  induction trs with
  | nil => simp at h
  | cons p trs ih =>
    by_cases hj : j = trs.length
    · exact ⟨p, At.cons.2 (.inl ⟨hj, rfl⟩)⟩
    · obtain ⟨t, ht⟩ := ih (by simp at h; omega)
      exact ⟨t, At.cons.2 (.inr ht)⟩
def kleAt (hpR up : Hp) (id : Nat) : Bool := match hlook hpR id, hlook up id with | some o0, some o => kle o0 o | _, _ => false
def okOut (hpR : Hp) (nx : Nat) (v : RV) (up : Hp) (nx1 : Nat) (W : List Nat) : Bool :=
  Nat.ble nx nx1 && v.ids.all (fun i => Nat.blt i nx1) &&
  up.all (fun p => Nat.blt p.1 nx1 && p.2.ids.all (fun i => Nat.blt i nx1) && (Nat.ble nx p.1 || W.any (Nat.beq p.1))) &&
  W.all (fun id => kleAt hpR up id)
def looksOf (ops : Array Oper) (o : Oper) : List Nat :=
  (o.op.operands.toList.filterMap fun | .tmp t => some t | _ => none) ++
  (match o.guard with
   | some (g, _) => ((ops[g]?).bind (·.dst)).toList
   | none => [])
def GuardIs (ops : Array Oper) (o : Oper) (fr : List RV) (d : Bool) : Prop :=
  match o.guard with
  | none => d = true
  | some (g, want) => (∃ s b k, (ops[g]?).bind (·.dst) = some s ∧ fr.getD s RV.und = .sv (.one (.val k (.bool b))) ∧ d = (b == want)) ∨
    ∃ s, (ops[g]?).bind (·.dst) = some s ∧ fr.getD s RV.und = RV.und ∧ d = false
/-- The operation o does t where the slots hold fr, the blocks hp. -/
structure TrOk (P : Program) (ops : Array Oper) (o : Oper) (fr : List RV) (hp : Hp) (nx : Nat) (t : Tr) : Prop where
  nx0 : t.nx0 = nx
  dst : t.dst = o.dst
  looks : t.looks = looksOf ops o
  bound : ∀ d, t.dst = some d → d < fr.length
  out : okOut (restrict hp t.R) nx t.v t.up t.nx1 t.W = true
  does : (GuardIs ops o fr true ∧ (∀ x ∈ o.op.operands, (opnd fr x).isDead = false) ∧ ∃ out : Out, ((∀ x ∈ o.op.operands, ∀ id ∈ (opnd fr x).ids, id < nx) → (∀ id ob, hlook hp id = some ob → id < nx ∧ ∀ i ∈ ob.ids, i < nx) → OpOk P o (opnd fr) (restrict hp t.R) nx out) ∧ (∀ e, t.v.den e = out.v.den e) ∧ t.up = out.up ∧ out.nx ≤ t.nx1 ∧ t.W = out.W) ∨
    (GuardIs ops o fr false ∧ t.v = RV.und ∧ t.up = [] ∧ t.W = [] ∧ t.nx1 = nx)
def TrsOk (P : Program) (ops : Array Oper) (fr0 : List RV) (hp0 : Hp) (nx0 : Nat) : List Tr → Prop
  | [] => True
  | t :: ts => (∃ o, ops[ts.length]? = some o ∧ TrOk P ops o (frT fr0 ts) (hpT hp0 ts) (nxT nx0 ts) t) ∧ TrsOk P ops fr0 hp0 nx0 ts
theorem TrsOk.at {P : Program} {ops : Array Oper} {fr0 : List RV} {hp0 : Hp} {nx0 : Nat} {trs : List Tr} (h : TrsOk P ops fr0 hp0 nx0 trs) {j : Nat} {t : Tr} (ht : At trs j t) :
    ∃ o pre ts, trs = pre ++ t :: ts ∧ ts.length = j ∧ ops[j]? = some o ∧ TrOk P ops o (frT fr0 ts) (hpT hp0 ts) (nxT nx0 ts) t ∧ TrsOk P ops fr0 hp0 nx0 ts := by
  induction trs with
  | nil => exact absurd ht.lt (by simp)
  | cons p trs ih =>
    rcases At.cons.1 ht with ⟨rfl, rfl⟩ | h1
    · obtain ⟨⟨o, ho, hok⟩, hr⟩ := h
      exact ⟨o, [], trs, rfl, rfl, ho, hok, hr⟩
    · obtain ⟨o, pre, ts, rfl, h2, h3, h4, h5⟩ := ih h.2 h1
      exact ⟨o, p :: pre, ts, rfl, h2, h3, h4, h5⟩
theorem putL_length (fr : List RV) (d : Option Nat) (v : RV) : (putL fr d v).length = fr.length := by
  cases d <;> simp [putL]
theorem frT_length (fr0 : List RV) (ts : List Tr) : (frT fr0 ts).length = fr0.length := by
  induction ts with
  | nil => rfl
  | cons t ts ih => simp [frT, putL_length, ih]
/-- Of what was done ahead: the names are old ones, and each step goes on with the names. -/
structure Names (fr0 : List RV) (hp0 : Hp) (nx0 : Nat) : Prop where
  fr : ∀ r ∈ fr0, ∀ i ∈ r.ids, i < nx0
  hp : ∀ id o, hlook hp0 id = some o → id < nx0 ∧ ∀ i ∈ o.ids, i < nx0
theorem getD_ids {fr : List RV} {s i : Nat} {n : Nat} (h : ∀ r ∈ fr, ∀ i ∈ r.ids, i < n) (hi : i ∈ (fr.getD s RV.und).ids) : i < n := by
  rw [List.getD_eq_getElem?_getD] at hi
  cases hs : fr[s]? with
  | none => rw [hs] at hi; simp [RV.und, RV.ids, SV.ids, CV.ids] at hi
  | some r => rw [hs] at hi; exact h r (List.mem_of_getElem? hs) i hi
structure OutOk (hpR : Hp) (nx : Nat) (t : Tr) : Prop where
  mono : nx ≤ t.nx1
  v : ∀ i ∈ t.v.ids, i < t.nx1
  up : ∀ p ∈ t.up, p.1 < t.nx1 ∧ (∀ i ∈ p.2.ids, i < t.nx1) ∧ (nx ≤ p.1 ∨ p.1 ∈ t.W)
  W : ∀ id ∈ t.W, ∃ o0 o, hlook hpR id = some o0 ∧ hlook t.up id = some o ∧ Kle o0 o
theorem kleAt_spec {hpR up : Hp} {id : Nat} (h : kleAt hpR up id = true) : ∃ o0 o, hlook hpR id = some o0 ∧ hlook up id = some o ∧ Kle o0 o := by
  unfold kleAt at h
  split at h
  · rename_i o0 o h1 h2; exact ⟨o0, o, h1, h2, kle_spec h⟩
  · cases h
theorem okOut_spec {hpR : Hp} {nx : Nat} {t : Tr} (h : okOut hpR nx t.v t.up t.nx1 t.W = true) : OutOk hpR nx t := by
  simp only [okOut, Bool.and_eq_true, List.all_eq_true, Bool.or_eq_true, List.any_eq_true] at h
  obtain ⟨⟨⟨h1, h2⟩, h3⟩, h4⟩ := h
  refine ⟨Nat.le_of_ble_eq_true h1, fun i hi => Nat.le_of_ble_eq_true (h2 i hi), fun p hp => ?_, fun id hid => kleAt_spec (h4 id hid)⟩
  obtain ⟨⟨g1, g2⟩, g3⟩ := h3 p hp
  refine ⟨Nat.le_of_ble_eq_true g1, fun i hi => Nat.le_of_ble_eq_true (g2 i hi), ?_⟩
  rcases g3 with g3 | ⟨x, hx, hb⟩
  · exact .inl (Nat.le_of_ble_eq_true g3)
  · rw [Nat.eq_of_beq_eq_true hb]; exact .inr hx
theorem okOut_mono {hpR : Hp} {nx n n' : Nat} {v : RV} {up : Hp} {W : List Nat} (hn : n ≤ n') (h : okOut hpR nx v up n W = true) : okOut hpR nx v up n' W = true := by
  simp only [okOut, Bool.and_eq_true, List.all_eq_true, Bool.or_eq_true] at h ⊢
  have lift : ∀ i, Nat.blt i n = true → Nat.blt i n' = true := fun i hi => Nat.ble_eq_true_of_le (Nat.le_trans (Nat.le_of_ble_eq_true hi) hn)
  obtain ⟨⟨⟨h1, h2⟩, h3⟩, h4⟩ := h
  exact ⟨⟨⟨Nat.ble_eq_true_of_le (Nat.le_trans (Nat.le_of_ble_eq_true h1) hn), fun i hi => lift i (h2 i hi)⟩, fun p hp => ⟨⟨lift _ (h3 p hp).1.1, fun i hi => lift i ((h3 p hp).1.2 i hi)⟩, (h3 p hp).2⟩⟩, h4⟩
theorem mem_set {α : Type} {l : List α} {d : Nat} {v r : α} (h : r ∈ l.set d v) : r = v ∨ r ∈ l := by
  rcases List.mem_or_eq_of_mem_set h with h | h
  · exact .inr h
  · exact .inl h
theorem TrsOk.names {P : Program} {ops : Array Oper} {fr0 : List RV} {hp0 : Hp} {nx0 : Nat} (hn : Names fr0 hp0 nx0) : ∀ {trs : List Tr}, TrsOk P ops fr0 hp0 nx0 trs → Names (frT fr0 trs) (hpT hp0 trs) (nxT nx0 trs) ∧ nx0 ≤ nxT nx0 trs := by
  intro trs
  induction trs with
  | nil => intro _; exact ⟨hn, Nat.le_refl _⟩
  | cons t ts ih =>
    rintro ⟨⟨o, ho, hok⟩, hr⟩
    obtain ⟨⟨h1, h2⟩, h3⟩ := ih hr
    have ho := okOut_spec hok.out
    have hm := ho.mono
    refine ⟨⟨fun r hr' i hi => ?_, fun id ob hl => ?_⟩, by simp only [nxT]; omega⟩
    · simp only [frT, putL] at hr'
      simp only [nxT]
      split at hr'
      · rcases mem_set hr' with rfl | h
        · exact ho.v i hi
        · have := h1 r h i hi; omega
      · have := h1 r hr' i hi; omega
    · simp only [hpT, hlook_append] at hl
      simp only [nxT]
      cases hu : hlook t.up id with
      | some o' =>
        rw [hu] at hl
        simp only [Option.some.injEq] at hl
        subst hl
        obtain ⟨g1, g2, _⟩ := ho.up _ (hlook_mem hu)
        exact ⟨g1, g2⟩
      | none =>
        rw [hu] at hl
        have := h2 id ob hl
        exact ⟨by omega, fun i hi => by have := this.2 i hi; omega⟩
end Go.Proofs.Ythgneojhhocflaa
