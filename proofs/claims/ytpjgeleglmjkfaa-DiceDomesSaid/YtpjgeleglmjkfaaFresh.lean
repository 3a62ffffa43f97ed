/- A region that draws its order, whose first operations are new blocks and operations that give one known value in every world that has grown, the last ones in one forced order: one walk serves every order; the new blocks' numbers stay open. No condition. -/
import Derived.Test.YtpjgeleglmjkfaaTail
set_option linter.unusedVariables false
namespace Go.Proofs.Ytpjgeleglmjkfaa
open Go.RowKit

section
variable {P : Program} {ops : Array Oper} {md : Region.Mode} {w : World} {n : Nat} {vals : Nat → Value}

/-- One known value, whatever the world; a callee leaves all that was there as it was. -/
def strongUpon (P : Program) (w : World) (v : Value) : Result Next → Prop
  | .ok (.value u) w' => w' = w ∧ u = v
  | .ok .skip w' => w' = w ∧ v = undef
  | .ok (.enter f args) w' => w' = w ∧ Calls P f args w (fun e w'' => e = .returned v ∧ Below w.heap.size w w'')
  | _ => False

/-- The new blocks of a region: the operation's number, its slot, what the block holds. -/
def isAl (als : List (Nat × Nat × Obj)) (i : Nat) : Bool := als.any fun e => e.1 == i
def freshV (als : List (Nat × Nat × Obj)) (vals : Nat → Value) (i b : Nat) : Value := if isAl als i then .pointer (some ⟨b, 0, none⟩) else vals i

def yieldS (P : Program) (ops : Array Oper) (w : World) (als : List (Nat × Nat × Obj)) (vals : Nat → Value) (i : Nat) (o : Oper) (a : Act) : Prop :=
  isAl als i = true ∨ (Region.wanted o (yielded ops a.tmps) = true ∧ ∀ s : Cls w, strongUpon P s.v (vals i) ((execOp a.eval o).run P s.v))

def headS (P : Program) (md : Region.Mode) (ops : Array Oper) (w : World) (n : Nat) (als : List (Nat × Nat × Obj)) (vals : Nat → Value) (L : Array Bool → Act → Prop) : Nat → Array Bool → Act → Prop
  | 0, listed, a => L listed a
  | f + 1, listed, a => Region.ready md ops listed ≠ [] ∧ ∀ i ∈ Region.ready md ops listed, i < n ∧ ∀ o, ops[i]? = some o →
      yieldS P ops w als vals i o a ∧ ∀ b, headS P md ops w n als vals L f (listed.setIfInBounds i true) (a.put o.dst (freshV als vals i b))

theorem yieldS_put {als : List (Nat × Nat × Obj)} {i : Nat} {o : Oper} {a : Act} {d : Option Tmp} {u : Value} (hs : ∀ cs b, o.op ≠ .select cs b) (h : ∀ t, d = some t → t ∉ o.looksAt ops) :
    yieldS P ops w als vals i o (a.put d u) ↔ yieldS P ops w als vals i o a := by
  unfold yieldS
  rw [wanted_put o a d u h, execOp_put o hs a d u h]

theorem headS_first {als : List (Nat × Nat × Obj)} {i : Nat} {oi : Oper} {L : Array Bool → Act → Prop} (hi : ops[i]? = some oi) (hsel : ∀ (j : Nat) (o : Oper) cs b, ops[j]? = some o → o.op ≠ .select cs b)
    (hs : Region.sinkB md ops n = true) (hc : Region.chainB md ops n = true) (hn : n < ops.size) (hin : i < n)
    (hdone : ∀ listed a, L listed a → ∀ j ∈ Region.ready md ops listed, n ≤ j) :
    ∀ (f : Nat) (listed : Array Bool) (a : Act), HeadInv md ops n listed →
      (∀ j oj, ops[j]? = some oj → j ≠ i → listed.getD j true = false → (∀ e ∈ oj.after, Region.binds md e = true → e.on ≠ i) → oi.apart ops oj = true) →
      i ∈ Region.ready md ops listed → yieldS P ops w als vals i oi a →
      (∀ b, headS P md ops w n als vals L f (listed.setIfInBounds i true) (a.put oi.dst (freshV als vals i b))) → headS P md ops w n als vals L (f + 1) listed a := by
  intro f
  induction f with
  | zero =>
    intro listed a inv hfree hr hy H
    have hun := (mem_ready.1 hr).1
    refine ⟨fun h => (by rw [h] at hr; cases hr), fun j hj => ?_⟩
    have hjn : j < n := Nat.lt_of_not_le fun h => tail_waits hs hc hn inv _ i rfl hin hun j h hj
    by_cases hji : j = i
    · subst hji
      refine ⟨hjn, fun o ho => ?_⟩
      obtain rfl : oi = o := Option.some.inj (hi.symm.trans ho)
      exact ⟨hy, H⟩
    · exact absurd (hdone _ _ (H 0) j (ready_mono hj hji)) (by omega)
  | succ f ih =>
    intro listed a inv hfree hr hy H
    have hun := (mem_ready.1 hr).1
    refine ⟨fun h => (by rw [h] at hr; cases hr), fun j hj => ?_⟩
    have hjn : j < n := Nat.lt_of_not_le fun h => tail_waits hs hc hn inv _ i rfl hin hun j h hj
    by_cases hji : j = i
    · subst hji
      refine ⟨hjn, fun o ho => ?_⟩
      obtain rfl : oi = o := Option.some.inj (hi.symm.trans ho)
      exact ⟨hy, H⟩
    refine ⟨hjn, fun oj hoj => ?_⟩
    obtain ⟨hjun, oj', hoj', hall⟩ := mem_ready.1 hj
    obtain rfl : oj = oj' := Option.some.inj (hoj.symm.trans hoj')
    have hnot : ∀ e ∈ oj.after, Region.binds md e = true → e.on ≠ i := by
      intro e he hb heq
      have h1 := hall e he hb
      rw [heq, getD_both hun] at h1
      cases h1
    obtain ⟨q1, q2, q3⟩ := Oper.apart_spec (hfree j oj hoj hji hjun hnot)
    have step := fun b => ((H b).2 j (ready_mono hj hji)).2 oj hoj
    refine ⟨(yieldS_put (fun cs b => hsel j oj cs b hoj) q1).1 (step 0).1, fun b' => ?_⟩
    refine ih (listed.setIfInBounds j true) _ (inv.set hj hjn) ?_ (ready_mono hr (Ne.symm hji)) ((yieldS_put (fun cs b => hsel i oi cs b hi) q3).2 hy) fun b => ?_
    · intro k ok hk hki hkun hno
      refine hfree k ok hk hki ?_ hno
      by_cases hjk : j = k
      · subst hjk; exact hjun
      · rwa [getD_set_ne true hjk] at hkun
    · have := (step b).2 b'
      rwa [Array.setIfInBounds_comm _ _ hji, ← Act.put_comm a (freshV als vals i b) (freshV als vals j b') q2]

/-- The walk in the text's order. -/
def wpS (P : Program) (ops : Array Oper) (w : World) (als : List (Nat × Nat × Obj)) (vals : Nat → Value) (Q : Act → Prop) : List Oper → Nat → Act → Prop
  | [], _, a => Q a
  | o :: rest, k, a => yieldS P ops w als vals k o a ∧ ∀ b, wpS P ops w als vals Q rest (k + 1) (a.put o.dst (freshV als vals k b))

theorem headS_lex {als : List (Nat × Nat × Obj)} {g : Nat} {Lq : Act → Prop} (hsel : Region.noSelect ops = true) (hs : Region.sinkB md ops n = true) (hc : Region.chainB md ops n = true) (hn : n < ops.size) :
    ∀ (l : List Oper) (k : Nat) (listed : Array Bool) (a : Act), (∀ j, j < l.length → l[j]? = ops[k + j]?) → k + l.length = n → HeadInv md ops n listed →
    Region.lexHead md ops g l.length k listed = true → wpS P ops w als vals Lq l k a →
    headS P md ops w n als vals (fun listed' a' => Region.seqB md ops g n listed' = true ∧ Lq a') l.length listed a := by
  intro l
  induction l with
  | nil =>
    intro k listed a _ hk _ hB h
    obtain rfl : k = n := by simpa using hk
    exact ⟨by simpa [Region.lexHead] using hB, h⟩
  | cons o l ih =>
    intro k listed a hl hk inv hB h
    have h0 : ops[k]? = some o := by simpa using (hl 0 (by simp)).symm
    simp only [List.length_cons, Region.lexHead, Bool.and_eq_true] at hB
    obtain ⟨⟨hr, hf⟩, hB'⟩ := hB
    have hkn : k < n := by simp only [List.length_cons] at hk; omega
    have hr' : k ∈ Region.ready md ops listed := by simpa using hr
    refine headS_first h0 (Region.noSelect_spec hsel) hs hc hn hkn (fun listed' a' hL => seqB_ready hL.1) l.length listed a inv (Region.free_spec h0 hf) hr' h.1 fun b => ?_
    refine ih (k + 1) _ _ (fun j hj => ?_) (by simp only [List.length_cons] at hk; omega) (inv.set hr' hkn) hB' (h.2 b)
    have := hl (j + 1) (by simp; omega)
    simpa [Nat.add_assoc, Nat.add_comm 1 j] using this

/-- What is known of the new blocks that have been laid. -/
def Laid (als : List (Nat × Nat × Obj)) (H : Nat) (listed : Array Bool) (a : Act) (w : World) : Prop :=
  ∀ e ∈ als, listed.getD e.1 false = true → ∃ b, a.tmps.getD e.2.1 undef = .pointer (some ⟨b, 0, none⟩) ∧ w.heap[b]? = some e.2.2 ∧ H ≤ b ∧
    ∀ e' ∈ als, listed.getD e'.1 false = true → e'.1 ≠ e.1 → a.tmps.getD e'.2.1 undef ≠ .pointer (some ⟨b, 0, none⟩)

/-- What the region's new blocks must be like: their operations, told apart by number and slot. -/
structure AlsOk (P : Program) (ops : Array Oper) (n m : Nat) (als : List (Nat × Nat × Obj)) : Prop where
  op : ∀ e ∈ als, ∃ o, ops[e.1]? = some o ∧ o.dst = some e.2.1 ∧ o.guard = none ∧ ∀ (a : Act) (w : World), (execOp a.eval o).run P w = .ok (.value (.pointer (some ⟨w.heap.size, 0, none⟩))) (w.alloc e.2.2)
  slot : ∀ e ∈ als, e.2.1 < m
  one : ∀ e ∈ als, ∀ e' ∈ als, e.1 = e'.1 → e = e'
  two : ∀ e ∈ als, ∀ e' ∈ als, e.2.1 = e'.2.1 → e = e'
  other : ∀ e ∈ als, ∀ i, i < n → i ≠ e.1 → ∀ o, ops[i]? = some o → o.dst ≠ some e.2.1

theorem put_size (a : Act) (d : Option Tmp) (v : Value) : (a.put d v).tmps.size = a.tmps.size := by cases d <;> simp [Act.put]
theorem put_other {a : Act} {d : Option Tmp} {t : Nat} (v : Value) (h : d ≠ some t) : (a.put d v).tmps.getD t undef = a.tmps.getD t undef := by
  cases d with
  | none => rfl
  | some e =>
    have : e ≠ t := fun h' => h (by rw [h'])
    simp [Act.put, Array.getElem?_setIfInBounds_ne this]
theorem put_same {a : Act} {t : Nat} (v : Value) (h : t < a.tmps.size) : (a.put (some t) v).tmps.getD t undef = v := by
  simp [Act.put, h]

theorem Laid.keep {als : List (Nat × Nat × Obj)} {H m i : Nat} {o : Oper} {listed : Array Bool} {a : Act} {w1 w2 : World} (ok : AlsOk P ops n m als) (h : Laid als H listed a w1) (ho : ops[i]? = some o) (hin : i < n) (hna : isAl als i = false)
    (hb : Below w1.heap.size w1 w2) (v : Value) : Laid als H (listed.setIfInBounds i true) (a.put o.dst v) w2 := by
  have hne : ∀ e ∈ als, i ≠ e.1 := by
    intro e he h'
    have : isAl als i = true := List.any_eq_true.2 ⟨e, he, by simp [h']⟩
    rw [hna] at this; cases this
  have hsl : ∀ e ∈ als, (a.put o.dst v).tmps.getD e.2.1 undef = a.tmps.getD e.2.1 undef := fun e he => put_other v (ok.other e he i hin (hne e he) o ho)
  intro e he hl
  rw [getD_set_ne false (hne e he)] at hl
  obtain ⟨b, h1, h2, h3, h4⟩ := h e he hl
  refine ⟨b, by rw [hsl e he]; exact h1, heap_below hb h2, h3, fun e' he' hl' hne' => ?_⟩
  rw [getD_set_ne false (hne e' he')] at hl'
  rw [hsl e' he']
  exact h4 e' he' hl' hne'

theorem Laid.lay {als : List (Nat × Nat × Obj)} {H m : Nat} {e0 : Nat × Nat × Obj} {listed : Array Bool} {a : Act} {w1 : World} (ok : AlsOk P ops n m als) (h : Laid als H listed a w1) (he0 : e0 ∈ als) (hm : a.tmps.size = m) (hH : H ≤ w1.heap.size) :
    Laid als H (listed.setIfInBounds e0.1 true) (a.put (some e0.2.1) (.pointer (some ⟨w1.heap.size, 0, none⟩))) (w1.alloc e0.2.2) := by
  have hsame := put_same (a := a) (t := e0.2.1) (.pointer (some ⟨w1.heap.size, 0, none⟩)) (by rw [hm]; exact ok.slot e0 he0)
  have hoth : ∀ e ∈ als, e ≠ e0 → (a.put (some e0.2.1) (.pointer (some ⟨w1.heap.size, 0, none⟩))).tmps.getD e.2.1 undef = a.tmps.getD e.2.1 undef := by
    intro e he hne
    refine put_other _ fun h' => hne ?_
    simp only [Option.some.injEq] at h'
    exact ok.two e he e0 he0 h'.symm
  have hlis : ∀ e ∈ als, e ≠ e0 → (listed.setIfInBounds e0.1 true).getD e.1 false = true → listed.getD e.1 false = true := by
    intro e he hne hl
    rwa [getD_set_ne false (fun h' => hne (ok.one e he e0 he0 h'.symm))] at hl
  intro e he hl
  by_cases hee : e = e0
  · subst hee
    refine ⟨w1.heap.size, hsame, heap_new _ _ _ rfl, hH, fun e' he' hl' hne' => ?_⟩
    have hne2 : e' ≠ e := fun h' => hne' (by rw [h'])
    rw [hoth e' he' hne2]
    obtain ⟨b', g1, g2, _, _⟩ := h e' he' (hlis e' he' hne2 hl')
    rw [g1]
    have := heap_lt g2
    simp only [ne_eq, Value.pointer.injEq, Option.some.injEq, Addr.mk.injEq, not_and]
    intro h'; omega
  · obtain ⟨b, g1, g2, g3, g4⟩ := h e he (hlis e he hee hl)
    refine ⟨b, by rw [hoth e he hee]; exact g1, blk_old _ g2, g3, fun e' he' hl' hne' => ?_⟩
    by_cases hee' : e' = e0
    · subst hee'
      rw [hsame]
      have := heap_lt g2
      simp only [ne_eq, Value.pointer.injEq, Option.some.injEq, Addr.mk.injEq, not_and]
      intro h'; omega
    · rw [hoth e' he' hee']
      exact g4 e' he' (hlis e' he' hee' hl') hne'

theorem any_of_headS {als : List (Nat × Nat × Obj)} {H m g : Nat} {L : Array Bool → Act → Prop} {Q' : Exit → Act → World → Prop} (ok : AlsOk P ops n m als) (hH : H ≤ w.heap.size)
    (hL : ∀ listed a w', Below w.heap.size w w' → Laid als H listed a w' → L listed a → wpAny P md ops Q' g listed a w') :
    ∀ (f : Nat) (listed : Array Bool) (a : Act) (w' : World), Below w.heap.size w w' → Laid als H listed a w' → a.tmps.size = m → headS P md ops w n als vals L f listed a → wpAny P md ops Q' (f + g) listed a w' := by
  intro f
  induction f with
  | zero => intro listed a w' hw hla _ h; rw [Nat.zero_add]; exact hL _ _ _ hw hla h
  | succ f ih =>
    intro listed a w' hw hla hm h
    have e : f + 1 + g = (f + g) + 1 := by omega
    rw [e]
    refine ⟨fun h0 => absurd h0 h.1, fun i hi => ?_⟩
    obtain ⟨hin, hop⟩ := h.2 i hi
    obtain ⟨_, o, ho, _⟩ := mem_ready.1 hi
    obtain ⟨hy, hnext⟩ := hop o ho
    unfold wpOp
    simp only [ho]
    cases hal : isAl als i with
    | true =>
      obtain ⟨e0, he0, hei⟩ := List.any_eq_true.1 hal
      obtain rfl : e0.1 = i := by simpa using hei
      obtain ⟨o', ho', hd, hg, hrun⟩ := ok.op e0 he0
      obtain rfl : o = o' := Option.some.inj (ho.symm.trans ho')
      have hw' : Region.wanted o (yielded ops a.tmps) = true := by unfold Region.wanted; rw [hg]
      rw [if_pos hw']
      refine .inl ?_
      unfold Oper.wp
      rw [hrun]
      have hn1 := hnext w'.heap.size
      unfold freshV at hn1
      rw [if_pos hal, hd] at hn1
      show wpAny P md ops Q' (f + g) _ (a.put o.dst _) _
      rw [hd]
      exact ih _ _ _ (hw.alloc hw.size _) (hla.lay ok he0 hm (Nat.le_trans hH hw.size)) (by rw [put_size]; exact hm) hn1
    | false =>
      rcases hy with hy | ⟨hw', hst⟩
      · rw [hal] at hy; cases hy
      rw [if_pos hw']
      refine .inl ?_
      have hn1 := hnext 0
      unfold freshV at hn1
      rw [if_neg (by rw [hal]; exact Bool.false_ne_true)] at hn1
      have h3 := hst ⟨w', hw⟩
      unfold Oper.wp
      simp only at h3
      generalize (execOp a.eval o).run P w' = r at *
      have fin : ∀ w2, Below w'.heap.size w' w2 → wpAny P md ops Q' (f + g) (listed.setIfInBounds i true) (a.put o.dst (vals i)) w2 := fun w2 hb =>
        ih _ _ _ (below_then hb hw) (hla.keep ok ho hin hal hb _) (by rw [put_size]; exact hm) hn1
      cases r with
      | ok nx w2 =>
        cases nx <;> simp only [strongUpon] at h3 <;> simp only [Oper.upon]
        case value u =>
          obtain ⟨rfl, rfl⟩ := h3
          exact fin _ (Below.refl _ _)
        case skip =>
          obtain ⟨rfl, hv⟩ := h3
          rw [← hv]
          exact fin _ (Below.refl _ _)
        case enter f' args =>
          obtain ⟨rfl, hc⟩ := h3
          exact hc.mono fun e w'' ⟨he, hb⟩ => by subst he; exact fin _ hb
      | halt x w2 => simp only [strongUpon] at h3

theorem wp_region_fresh {id : Nat} {Q : Exit → Act → World → Prop} {a : Act} {l : List Oper} (n : Nat) (als : List (Nat × Nat × Obj)) (vs : List Value) (hm : P.follows .mixedOrders = true) (hB : Region.lexTailB .any l.toArray n = true)
    (ok : AlsOk P l.toArray n a.tmps.size als)
    (h : wpS P l.toArray w als (fun i => vs.getD i undef) (fun a' => ∀ s : Cls w, (∀ e ∈ als, ∃ b, a'.tmps.getD e.2.1 undef = .pointer (some ⟨b, 0, none⟩) ∧ s.v.heap[b]? = some e.2.2 ∧ w.heap.size ≤ b ∧ ∀ e' ∈ als, e'.1 ≠ e.1 → a'.tmps.getD e'.2.1 undef ≠ .pointer (some ⟨b, 0, none⟩)) →
      wpList P l.toArray Q (l.drop n) a' s.v) (l.take n) 0 a) (hall : ∀ listed, Region.seqB .any l.toArray (l.toArray.size - n) n listed = true → ∀ e ∈ als, listed.getD e.1 false = true) : (Code.region id l.toArray true).wp P Q a w := by
  simp only [Region.lexTailB, Bool.and_eq_true, decide_eq_true_eq] at hB
  obtain ⟨⟨⟨⟨hsel, hn⟩, hs⟩, hc⟩, hlex⟩ := hB
  have hn' : n < l.length := by simpa using hn
  have htl : (l.take n).length = n := by simp; omega
  have hdl : (l.drop n).length = l.toArray.size - n := by simp
  have inv0 : HeadInv .any l.toArray n (Array.replicate l.toArray.size false) :=
    ⟨by simp, fun j oj _ hl => (by rw [getD_replicate_false] at hl; cases hl), fun t _ ht => getD_in (by simpa using ht) (getD_replicate_false _ _)⟩
  have K := headS_lex (md := .any) (g := l.toArray.size - n) hsel hs hc hn (l.take n) 0 _ a (fun j hj => by
    have hj' : j < n := by rw [htl] at hj; exact hj
    simp [hj']) (by simpa using htl) inv0 (by rw [htl]; exact hlex) h
  refine wp_region_any hm ?_
  have k := any_of_headS (Q' := Q) (H := w.heap.size) (g := l.toArray.size - n) ok (Nat.le_refl _) (fun listed a' w' hw' hla hL => by
    have := wpAny_of_seq (md := .any) (Q' := Q) (l.drop n) n listed a' w' (fun j => by simp [List.getElem?_drop]) (by rw [hdl]; exact hL.1) (hL.2 ⟨w', hw'⟩ fun e he => by
      obtain ⟨b, g1, g2, g3, g4⟩ := hla e he (hall listed hL.1 e he)
      exact ⟨b, g1, g2, g3, fun e' he' hne => g4 e' he' (hall listed hL.1 e' he') hne⟩)
    rwa [hdl] at this) _ _ _ _ (Below.drew (Below.refl _ _)) (fun e he hl => by rw [getD_replicate_false] at hl; cases hl) rfl K
  rw [htl, show n + (l.toArray.size - n) = l.toArray.size by omega] at k
  exact k

/-- The first of the last operations waits for each new block. -/
theorem laid_all {l : List Oper} {n : Nat} {als : List (Nat × Nat × Obj)} (hn : n < l.length) (hw : ∀ e ∈ als, Region.waitsFor .any l.toArray n e.1 = true) :
    ∀ listed, Region.seqB .any l.toArray (l.toArray.size - n) n listed = true → ∀ e ∈ als, listed.getD e.1 false = true := by
  intro listed hB e he
  obtain ⟨g, hg⟩ : ∃ g, l.toArray.size - n = g + 1 := ⟨l.length - n - 1, by simp; omega⟩
  rw [hg] at hB
  simp only [Region.seqB, Bool.and_eq_true, decide_eq_true_eq] at hB
  have hr : n ∈ Region.ready .any l.toArray listed := by rw [hB.1]; simp
  obtain ⟨_, o, ho, hall⟩ := mem_ready.1 hr
  obtain ⟨o', ho', x, hx, hb, hon⟩ := Region.waitsFor_spec (hw e he)
  obtain rfl : o = o' := Option.some.inj (ho.symm.trans ho')
  have := hall x hx hb
  rwa [hon] at this
def otherB (ops : Array Oper) (n : Nat) (als : List (Nat × Nat × Obj)) : Bool :=
  als.all fun e => (List.range n).all fun i => i == e.1 || (match ops[i]? with | some o => o.dst != some e.2.1 | none => true)
theorem other_of {n : Nat} {als : List (Nat × Nat × Obj)} (h : otherB ops n als = true) : ∀ e ∈ als, ∀ i, i < n → i ≠ e.1 → ∀ o, ops[i]? = some o → o.dst ≠ some e.2.1 := by
  intro e he i hi hne o ho
  have h1 := List.all_eq_true.1 (List.all_eq_true.1 h e he) i (List.mem_range.2 hi)
  rw [ho] at h1
  simp only [Bool.or_eq_true, beq_iff_eq, bne_iff_ne] at h1
  rcases h1 with h1 | h1
  · exact absurd h1 hne
  · exact h1
theorem wpS_nil {als : List (Nat × Nat × Obj)} {Q : Act → Prop} {k : Nat} {a : Act} (h : Q a) : wpS P ops w als vals Q [] k a := h
theorem wpS_al {als : List (Nat × Nat × Obj)} {Q : Act → Prop} {k : Nat} {a : Act} {o : Oper} {rest : List Oper} (hal : isAl als k = true) (h : ∀ b, wpS P ops w als vals Q rest (k + 1) (a.put o.dst (.pointer (some ⟨b, 0, none⟩)))) : wpS P ops w als vals Q (o :: rest) k a :=
  ⟨.inl hal, fun b => by have := h b; unfold freshV; rw [if_pos hal]; exact this⟩
theorem wpS_op {als : List (Nat × Nat × Obj)} {Q : Act → Prop} {k : Nat} {a : Act} {o : Oper} {rest : List Oper} (v : Value) (hal : isAl als k = false) (hv : vals k = v) (hw : Region.wanted o (yielded ops a.tmps) = true)
    (hs : ∀ s : Cls w, strongUpon P s.v v ((execOp a.eval o).run P s.v)) (h : wpS P ops w als vals Q rest (k + 1) (a.put o.dst v)) : wpS P ops w als vals Q (o :: rest) k a :=
  ⟨.inr ⟨hw, by rw [hv]; exact hs⟩, fun b => by unfold freshV; rw [if_neg (by rw [hal]; exact Bool.false_ne_true), hv]; exact h⟩
theorem strong_call {f : FuncId} {args : Array Value} {w1 : World} {v : Value} (h : Calls P f args w1 fun e w'' => e = .returned v ∧ Below w1.heap.size w1 w'') : strongUpon P w1 v (.ok (.enter f args) w1) := ⟨rfl, h⟩
end
end Go.Proofs.Ytpjgeleglmjkfaa
