/- A region that draws its order, all of whose operations but the last ones are quiet in every world that has grown from the first, the last ones in one forced order: one walk of the quiet ones, then the last ones, serves every order. No condition. -/
import Derived.Test.YtonlllijdbjkaaaBase
import Derived.StillTail
set_option linter.unusedVariables false
namespace Go.Proofs.Ytonlllijdbjkaaa
open Go.RowKit

section
variable {P : Program} {ops : Array Oper} {md : Region.Mode} {C : World → Prop}

/-- The quiet operations before number n come up in whatever order; then L is asked. -/
def headQ (P : Program) (md : Region.Mode) (ops : Array Oper) (C : World → Prop) (n : Nat) (L : Array Bool → Act → Prop) : Nat → Array Bool → Act → Prop
  | 0, listed, a => L listed a
  | f + 1, listed, a => Region.ready md ops listed ≠ [] ∧ ∀ i ∈ Region.ready md ops listed, i < n ∧ qOp P ops C i (headQ P md ops C n L f (listed.setIfInBounds i true)) a

theorem any_of_headQ {n g : Nat} {L : Array Bool → Act → Prop} {Q' : Exit → Act → World → Prop} (hL : ∀ listed a w, C w → L listed a → wpAny P md ops Q' g listed a w) :
    ∀ (f : Nat) (listed : Array Bool) (a : Act) (w : World), C w → headQ P md ops C n L f listed a → wpAny P md ops Q' (f + g) listed a w := by
  intro f
  induction f with
  | zero => intro listed a w hw h; rw [Nat.zero_add]; exact hL _ _ _ hw h
  | succ f ih =>
    intro listed a w hw h
    have e : f + 1 + g = (f + g) + 1 := by omega
    rw [e]
    exact ⟨fun h0 => absurd h0 h.1, fun i hi => wpOp_of_qOp hw (fun a' w' hw' k => ih _ a' w' hw' k) (h.2 i hi).2⟩

theorem headQ_first {n i : Nat} {oi : Oper} {v : Value} {L : Array Bool → Act → Prop} (hi : ops[i]? = some oi) (hsel : ∀ (j : Nat) (o : Oper) cs b, ops[j]? = some o → o.op ≠ .select cs b)
    (hs : Region.sinkB md ops n = true) (hc : Region.chainB md ops n = true) (hn : n < ops.size) (hin : i < n)
    (hdone : ∀ listed a, L listed a → ∀ j ∈ Region.ready md ops listed, n ≤ j) :
    ∀ (f : Nat) (listed : Array Bool) (a : Act), HeadInv md ops n listed →
      (∀ j oj, ops[j]? = some oj → j ≠ i → listed.getD j true = false → (∀ e ∈ oj.after, Region.binds md e = true → e.on ≠ i) → oi.apart ops oj = true) →
      i ∈ Region.ready md ops listed → YieldsIn P ops C oi v a →
      headQ P md ops C n L f (listed.setIfInBounds i true) (a.put oi.dst v) → headQ P md ops C n L (f + 1) listed a := by
  intro f
  induction f with
  | zero =>
    intro listed a inv hfree hr hy H
    have hun := (mem_ready.1 hr).1
    refine ⟨fun h => (by rw [h] at hr; cases hr), fun j hj => ?_⟩
    have hjn : j < n := Nat.lt_of_not_le fun h => tail_waits hs hc hn inv _ i rfl hin hun j h hj
    by_cases hji : j = i
    · subst hji; exact ⟨hjn, hy.qOp hi H⟩
    · exact absurd (hdone _ _ H j (ready_mono hj hji)) (by omega)
  | succ f ih =>
    intro listed a inv hfree hr hy H
    have hun := (mem_ready.1 hr).1
    refine ⟨fun h => (by rw [h] at hr; cases hr), fun j hj => ?_⟩
    have hjn : j < n := Nat.lt_of_not_le fun h => tail_waits hs hc hn inv _ i rfl hin hun j h hj
    by_cases hji : j = i
    · subst hji; exact ⟨hjn, hy.qOp hi H⟩
    refine ⟨hjn, ?_⟩
    obtain ⟨hjun, oj, hoj, hall⟩ := mem_ready.1 hj
    have hnot : ∀ e ∈ oj.after, Region.binds md e = true → e.on ≠ i := by
      intro e he hb heq
      have h1 := hall e he hb
      rw [heq, getD_both hun] at h1
      cases h1
    have h1 := (H.2 j (ready_mono hj hji)).2
    have h2 := qOp_put hoj (hfree j oj hoj hji hjun hnot) (fun cs b => hsel i oi cs b hi) (fun cs b => hsel j oj cs b hoj) hy h1
    refine qOp_mono (fun a' h3 => ih (listed.setIfInBounds j true) a' (inv.set hj hjn) ?_ (ready_mono hr (Ne.symm hji)) h3.1 ?_) h2
    · intro k ok hk hki hkun hno
      refine hfree k ok hk hki ?_ hno
      by_cases hjk : j = k
      · subst hjk; exact hjun
      · rwa [getD_set_ne true hjk] at hkun
    · rw [Array.setIfInBounds_comm _ _ hji]
      exact h3.2

theorem headQ_lex {n g : Nat} {Lq : Act → Prop} (hsel : Region.noSelect ops = true) (hs : Region.sinkB md ops n = true) (hc : Region.chainB md ops n = true) (hn : n < ops.size) :
    ∀ (l : List Oper) (k : Nat) (listed : Array Bool) (a : Act), (∀ j, j < l.length → l[j]? = ops[k + j]?) → k + l.length = n → HeadInv md ops n listed →
    Region.lexHead md ops g l.length k listed = true → wpQuiet P ops C Lq l a →
    headQ P md ops C n (fun listed' a' => Region.seqB md ops g n listed' = true ∧ Lq a') l.length listed a := by
  intro l
  induction l with
  | nil =>
    intro k listed a _ hk _ hB h
    obtain rfl : k = n := by simpa using hk
    exact ⟨by simpa [Region.lexHead] using hB, h⟩
  | cons o l ih =>
    intro k listed a hl hk inv hB h
    have h0 : ops[k]? = some o := by simpa using (hl 0 (by simp)).symm
    simp only [List.length_cons, Region.lexHead, Bool.and_eq_true] at hB
    obtain ⟨⟨hr, hf⟩, hB'⟩ := hB
    have hkn : k < n := by simp only [List.length_cons] at hk; omega
    have hr' : k ∈ Region.ready md ops listed := by simpa using hr
    have hst : qOp P ops C k (wpQuiet P ops C Lq l) a := by unfold qOp; simp only [h0]; exact h
    obtain ⟨v, hy, hK⟩ := yieldsIn_of_qOp h0 hst
    refine headQ_first h0 (Region.noSelect_spec hsel) hs hc hn hkn (fun listed' a' hL => seqB_ready hL.1) l.length listed a inv (Region.free_spec h0 hf) hr' hy ?_
    refine ih (k + 1) _ _ (fun j hj => ?_) (by simp only [List.length_cons] at hk; omega) (inv.set hr' hkn) hB' hK
    have := hl (j + 1) (by simp; omega)
    simpa [Nat.add_assoc, Nat.add_comm 1 j] using this

theorem wp_region_cls_tail {id : Nat} {Q : Exit → Act → World → Prop} {a : Act} {w : World} {l : List Oper} (n : Nat) (hm : P.follows .mixedOrders = true) (hB : Region.lexTailB .any l.toArray n = true)
    (h : wpQuiet P l.toArray (fun w' => ∃ s : Cls w, w' = s.v) (fun a' => ∀ s : Cls w, wpList P l.toArray Q (l.drop n) a' s.v) (l.take n) a) : (Code.region id l.toArray true).wp P Q a w := by
  simp only [Region.lexTailB, Bool.and_eq_true, decide_eq_true_eq] at hB
  obtain ⟨⟨⟨⟨hsel, hn⟩, hs⟩, hc⟩, hlex⟩ := hB
  have hn' : n < l.length := by simpa using hn
  have htl : (l.take n).length = n := by simp; omega
  have hdl : (l.drop n).length = l.toArray.size - n := by simp
  have inv0 : HeadInv .any l.toArray n (Array.replicate l.toArray.size false) :=
    ⟨by simp, fun j oj _ hl => (by rw [getD_replicate_false] at hl; cases hl), fun t _ ht => getD_in (by simpa using ht) (getD_replicate_false _ _)⟩
  have H := headQ_lex (md := .any) (g := l.toArray.size - n) hsel hs hc hn (l.take n) 0 _ a (fun j hj => by
    have hj' : j < n := by rw [htl] at hj; exact hj
    simp [hj']) (by simpa using htl) inv0 (by rw [htl]; exact hlex) h
  refine wp_region_any hm ?_
  have hw : ∃ s : Cls w, ({ w with drawn := w.drawn + 1 } : World) = s.v := ⟨⟨_, Below.drew (Below.refl _ _)⟩, rfl⟩
  have k := any_of_headQ (Q' := Q) (g := l.toArray.size - n) (fun listed a' w' hw' hL => by
    obtain ⟨s, rfl⟩ := hw'
    have := wpAny_of_seq (md := .any) (Q' := Q) (l.drop n) n listed a' s.v (fun j => by simp [List.getElem?_drop]) (by rw [hdl]; exact hL.1) (hL.2 s)
    rwa [hdl] at this) _ _ _ _ hw H
  rw [htl, show n + (l.toArray.size - n) = l.toArray.size by omega] at k
  exact k
end

theorem wp_world {P : Program} {c : Code} {Q : Exit → Act → World → Prop} {a : Act} {W : World} (I : World → Prop) (hI : I W) (h : ∀ W', I W' → Code.wp P c Q a W') : Code.wp P c Q a W := h W hI
theorem wp_rounds_world {P : Program} {c : Code} {Q : Exit → Act → World → Prop} {n : Nat} {a : Act} {W : World} (I : World → Prop) (hI : I W) (h : ∀ W', I W' → Code.rounds P c Q n a W') : Code.rounds P c Q n a W := h W hI
theorem calls_world {P : Program} {f : FuncId} {args : Array Value} {R : Ending → World → Prop} {W : World} (I : World → Prop) (hI : I W) (h : ∀ W', I W' → Calls P f args W' R) : Calls P f args W R := h W hI
/-! ### Blocks that are known whole -/
theorem blk_old {w : World} {n : Nat} {o : Obj} (o' : Obj) (h : w.heap[n]? = some o) : (w.alloc o').heap[n]? = some o := by
  rw [Below.heap_alloc _ _ _ (heap_lt h)]; exact h
theorem blk_other {w : World} {n : Nat} {o : Obj} {a : Addr} (u : Value) (h : w.heap[n]? = some o) (hne : n ≠ a.block) : (w.setCell a u).heap[n]? = some o := by
  rw [Below.heap_setCell _ _ _ _ hne]; exact h
theorem blk_set {w : World} {n i : Nat} {C : Array Value} {T : TypeId} {fr : Nat × Nat} (u : Value) (h : w.heap[n]? = some (.cells C T fr)) : (w.setCell ⟨n, i, none⟩ u).heap[n]? = some (.cells (C.setIfInBounds i u) T fr) := by
  simp [World.setCell, Array.getElem?_modify, h]
theorem blk_cell {w : World} {n i : Nat} {C : Array Value} {T : TypeId} {fr : Nat × Nat} {v : Value} (h : w.heap[n]? = some (.cells C T fr)) (hi : C[i]? = some v) : w.cell? ⟨n, i, none⟩ = some v := by
  simp [World.cell?, h, hi]
theorem blk_free {w : World} {n i : Nat} {C : Array Value} {T : TypeId} (h : w.heap[n]? = some (.cells C T (0, 0))) : w.frozen? ⟨n, i, none⟩ = false := by
  simp [World.frozen?, h]
theorem blk_cls {w : World} {n i : Nat} {C : Array Value} {T : TypeId} {fr : Nat × Nat} {v : Value} (h : w.heap[n]? = some (.cells C T fr)) (hi : C[i]? = some v) : ∀ s : Cls w, s.v.cell? ⟨n, i, none⟩ = some v :=
  Cls.cell (blk_cell h hi)
end Go.Proofs.Ytonlllijdbjkaaa
