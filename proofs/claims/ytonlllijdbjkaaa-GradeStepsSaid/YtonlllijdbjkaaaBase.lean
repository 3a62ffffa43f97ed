/- Plain laws that every text of this seat uses: how an argument that came in lies in memory, cell by cell, and that what was there stays. No condition. -/
import Derived.WalkKit
import Derived.ProofKit
import Derived.OpenShut
import Derived.ChangeOld
import Derived.Below
import Derived.Lib.Hide
import Derived.Handy
import Derived.Deep.QuietTactic
import Derived.BigQuiet
set_option linter.unusedVariables false
namespace Go.Proofs.Ytonlllijdbjkaaa
open Go.ChangeShapes Go.WideShapes Go.ChangeAt Go.RowKit

/-! ### The leaves of a type -/
/-- The types of a value's cells, one behind the other; none where the layout is not so. -/
def leafGo (g : TypeId → Option (List TypeId)) (P : Program) : List Field → Nat → Option (List TypeId)
  | [], _ => some []
  | f :: fs, off => (g f.type).bind fun ts => if f.offset = off ∧ P.cellsOf f.type = ts.length then (leafGo g P fs (off + ts.length)).map (ts ++ ·) else none
def leafRep (ts : List TypeId) : Nat → List TypeId
  | 0 => []
  | n + 1 => leafRep ts n ++ ts
def leafT (P : Program) : Nat → TypeId → Option (List TypeId)
  | 0, _ => none
  | d + 1, t =>
    match P.underlying t with
    | some (.struct fs) => (leafGo (leafT P d) P fs.toList 0).bind fun ts => if P.cellsOf t = ts.length then some ts else none
    | some (.array n e) => (leafT P d e).bind fun ts => if P.cellsOf e = ts.length ∧ P.cellsOf t = (leafRep ts n).length then some (leafRep ts n) else none
    | some _ => if P.cellsOf t = 1 then some [t] else none
    | none => none

section
variable {H : Type} {enc : TypeId × Value → H} {P : Program} {w : World} {base : Nat} {spare : Nat → Bool} {held : Bool}

/-- A cell that reads at a type. -/
def CellT (enc : TypeId × Value → H) (P : Program) (w : World) (base : Nat) (spare : Nat → Bool) (held : Bool) (u : TypeId) (c : Value) : Prop :=
  ∃ f y, DataW.trod enc P w base spare held f u [c] = some y

def CellsT (enc : TypeId × Value → H) (P : Program) (w : World) (base : Nat) (spare : Nat → Bool) (held : Bool) (ts : List TypeId) (cs : List Value) : Prop :=
  cs.length = ts.length ∧ ∀ (i : Nat) (u : TypeId), ts[i]? = some u → ∃ c, cs[i]? = some c ∧ CellT enc P w base spare held u c

theorem CellsT.append {ts ts' : List TypeId} {cs cs' : List Value} (h : CellsT enc P w base spare held ts cs) (h' : CellsT enc P w base spare held ts' cs') : CellsT enc P w base spare held (ts ++ ts') (cs ++ cs') := by
  refine ⟨by simp [h.1, h'.1], fun i u hu => ?_⟩
  by_cases hi : i < ts.length
  · rw [List.getElem?_append_left hi] at hu
    obtain ⟨c, hc, k⟩ := h.2 i u hu
    exact ⟨c, by rw [List.getElem?_append_left (by rw [h.1]; exact hi)]; exact hc, k⟩
  · rw [List.getElem?_append_right (by omega)] at hu
    obtain ⟨c, hc, k⟩ := h'.2 _ u hu
    exact ⟨c, by rw [List.getElem?_append_right (by rw [h.1]; omega), h.1]; exact hc, k⟩

theorem trod_any_len {f : Nat} {t : TypeId} {cs : List Value} {x : DataW H × List MemPlace} {v : TypeDesc} (hu : P.underlying t = some v) (hns : ∀ fs, v ≠ .struct fs) (hna : ∀ n e, v ≠ .array n e)
    (h : DataW.trod enc P w base spare held f t cs = some x) : cs.length = 1 := by
  cases f with
  | zero => simp [DataW.trod] at h
  | succ n =>
    unfold DataW.trod at h
    rw [hu] at h
    split at h <;> first | rfl | (exfalso; simp_all; done) | simp_all

theorem CellsT.nil : CellsT enc P w base spare held [] [] := ⟨rfl, fun i u h => by simp at h⟩

theorem leafGo_cells {d : Nat} (ih : ∀ f t cs x ts, leafT P d t = some ts → DataW.trod enc P w base spare held f t cs = some x → CellsT enc P w base spare held ts cs)
    (m : Nat) (cs : List Value) : ∀ (fs : List Field) (off : Nat) (ts : List TypeId), leafGo (leafT P d) P fs off = some ts → off + ts.length = cs.length →
    (∀ f ∈ fs, ∃ y, DataW.trod enc P w base spare held m f.type ((cs.drop f.offset).take (P.cellsOf f.type)) = some y) → CellsT enc P w base spare held ts (cs.drop off) := by
  intro fs
  induction fs with
  | nil =>
    intro off ts h hl _
    simp only [leafGo, Option.some.injEq] at h
    subst h
    rw [List.drop_of_length_le (by simp at hl; omega)]
    exact .nil
  | cons f fs ihf =>
    intro off ts h hl hf
    simp only [leafGo, Option.bind_eq_some_iff] at h
    obtain ⟨t1, h1, h2⟩ := h
    split at h2
    case isFalse => cases h2
    rename_i hc
    obtain ⟨hc1, hc2⟩ := hc
    simp only [Option.map_eq_some_iff] at h2
    obtain ⟨t2, h3, rfl⟩ := h2
    obtain ⟨y, hy⟩ := hf f (by simp)
    have k1 := ih _ _ _ _ _ h1 hy
    have k2 := ihf _ _ h3 (by simp at hl; omega) (fun g hg => hf g (by simp [hg]))
    have e : cs.drop off = (cs.drop off).take t1.length ++ cs.drop (off + t1.length) := by
      rw [← List.drop_drop, List.take_append_drop]
    rw [e]
    rw [hc1, hc2] at k1
    exact k1.append k2

theorem leafRep_cells {e : TypeId} {d : Nat} (ih : ∀ f t cs x ts, leafT P d t = some ts → DataW.trod enc P w base spare held f t cs = some x → CellsT enc P w base spare held ts cs)
    (m : Nat) (cs : List Value) (ts : List TypeId) (hts : leafT P d e = some ts) : ∀ (n : Nat), n * ts.length ≤ cs.length →
    (∀ i, i < n → ∃ y, DataW.trod enc P w base spare held m e ((cs.drop (i * ts.length)).take ts.length) = some y) → CellsT enc P w base spare held (leafRep ts n) (cs.take (n * ts.length)) := by
  intro n
  induction n with
  | zero => intro _ _; simpa [leafRep] using CellsT.nil
  | succ n ihn =>
    intro hl hf
    have hl' : n * ts.length + ts.length ≤ cs.length := by rw [Nat.succ_mul] at hl; exact hl
    have k1 := ihn (by omega) (fun i hi => hf i (by omega))
    obtain ⟨y, hy⟩ := hf n (by omega)
    have k2 := ih _ _ _ _ _ hts hy
    have e : cs.take ((n + 1) * ts.length) = cs.take (n * ts.length) ++ (cs.drop (n * ts.length)).take ts.length := by
      rw [Nat.succ_mul, List.take_add]
    rw [e]
    exact k1.append k2

theorem leafRep_length (ts : List TypeId) (n : Nat) : (leafRep ts n).length = n * ts.length := by
  induction n with
  | zero => simp [leafRep]
  | succ n ih => simp [leafRep, ih, Nat.succ_mul]

/-- WHAT READS AT A TYPE READS LEAF BY LEAF. -/
theorem trod_leaf : ∀ (d f : Nat) (t : TypeId) (cs : List Value) (x : DataW H × List MemPlace) (ts : List TypeId), leafT P d t = some ts → DataW.trod enc P w base spare held f t cs = some x → CellsT enc P w base spare held ts cs := by
  intro d
  induction d with
  | zero => intro f t cs x ts h; simp [leafT] at h
  | succ d ih =>
    intro f t cs x ts h hx
    simp only [leafT] at h
    split at h
    · rename_i fs hu
      simp only [Option.bind_eq_some_iff] at h
      obtain ⟨ts', h1, h2⟩ := h
      split at h2
      case isFalse => cases h2
      rename_i hc
      cases h2
      obtain ⟨xs, m, _, _, hl, hxl, hf⟩ := DataW.trod_struct hu hx
      have := leafGo_cells ih m cs fs.toList 0 ts h1 (by omega) (fun f hf' => by
        obtain ⟨i, hi, rfl⟩ := List.getElem_of_mem hf'
        have hi' : i < fs.size := by simpa using hi
        have := hf i fs[i] (by simp [hi'])
        have hx : i < xs.length := by omega
        exact ⟨xs[i], by rw [List.getElem?_eq_getElem hx] at this; simpa using this⟩)
      simpa using this
    · rename_i n e hu
      simp only [Option.bind_eq_some_iff] at h
      obtain ⟨ts', h1, h2⟩ := h
      split at h2
      case isFalse => cases h2
      rename_i hc
      obtain ⟨hc1, hc2⟩ := hc
      cases h2
      obtain ⟨xs, m, _, _, hl, hxl, hf⟩ := DataW.trod_array hu hx
      rw [leafRep_length] at hc2
      have := leafRep_cells ih m cs ts' h1 n (by omega) (fun i hi => by
        have h3 := hf i hi
        have hx : i < xs.length := by omega
        rw [hc1, List.getElem?_eq_getElem hx] at h3
        exact ⟨_, h3⟩)
      rwa [List.take_of_length_le (by omega)] at this
    · rename_i v hns hna hu
      split at h
      case isFalse => cases h
      cases h
      have hl := trod_any_len hu hns hna hx
      obtain ⟨c, rfl⟩ := List.length_eq_one_iff.1 hl
      refine ⟨rfl, fun i u hi => ?_⟩
      cases i with
      | zero => simp at hi; subst hi; exact ⟨c, rfl, f, x, hx⟩
      | succ i => simp at hi
    · cases h

/-- All leaves are integers, of the kinds ks. -/
theorem CellsT.ints {ks : List IntKind} {ts : List TypeId} {cs : List Value} (h : CellsT enc P w base spare held ts cs) (hk : ts.map P.underlying = ks.map (fun k => some (TypeDesc.int k))) :
    ∃ z : Nat → Int, (∀ (i : Nat) k, ks[i]? = some k → cs[i]? = some (Value.int k (z i)) ∧ (Lit.int k (z i)).wf = true) ∧ cs.length = ks.length := by
  have hl : ts.length = ks.length := by simpa using congrArg List.length hk
  have h2 : ∀ i : Nat, ∃ n, ∀ k, ks[i]? = some k → cs[i]? = some (Value.int k n) ∧ (Lit.int k n).wf = true := by
    intro i
    by_cases hi : i < ts.length
    · obtain ⟨c, hc, f, y, hy⟩ := h.2 i ts[i] (by simp [hi])
      have hk' : P.underlying ts[i] = some (.int (ks[i]'(by omega))) := by
        have := congrArg (fun l : List (Option TypeDesc) => l[i]?) hk
        simpa [hi, show i < ks.length by omega] using this
      obtain ⟨n, hn, _, hw⟩ := DataW.trod_int hk' hy
      simp only [List.cons.injEq, and_true] at hn
      refine ⟨n, fun k hkk => ?_⟩
      rw [List.getElem?_eq_getElem (by omega)] at hkk
      cases hkk
      exact ⟨by rw [hc, hn], hw⟩
    · refine ⟨0, fun k hkk => ?_⟩
      have := (List.getElem?_eq_some_iff.1 hkk).1
      omega
  exact ⟨fun i => Classical.choose (h2 i), fun i => Classical.choose_spec (h2 i), by rw [h.1, hl]⟩

/-- The cells written out. -/
def intCells (ks : List IntKind) (z : Nat → Int) : List Value := ks.mapIdx fun i k => .int k (z i)
theorem cells_ints {ks : List IntKind} {cs : List Value} {z : Nat → Int} (h : ∀ (i : Nat) k, ks[i]? = some k → cs[i]? = some (Value.int k (z i)) ∧ (Lit.int k (z i)).wf = true) (hl : cs.length = ks.length) : cs = intCells ks z := by
  apply List.ext_getElem?
  intro i
  unfold intCells
  rw [List.getElem?_mapIdx]
  by_cases hi : i < ks.length
  · rw [(h i ks[i] (by simp [hi])).1]
    simp [hi]
  · rw [List.getElem?_eq_none (by omega), List.getElem?_eq_none (by omega)]
    rfl

theorem okWide_array {r : Reach} {b0 n : Nat} {t e : TypeId} {v : Value} (ht : P.underlying t = some (.array n e)) (h : Value.okWide P w r b0 t v) : ∃ cs, v = .agg cs ∧ cs.size = P.cellsOf t := by
  simp only [Value.okWide, ht] at h
  obtain ⟨cs, h1, h2, _⟩ := h
  exact ⟨cs, h1, h2⟩

/-- A value of a struct or array type, all of whose leaves are integers: written out. -/
theorem open_aggs {r : Reach} {b0 : Nat} {t : TypeId} {v : Value} {d : DataW H} {p : List MemPlace} (ks : List IntKind) (n : Nat)
    (ht : (∃ fs, P.underlying t = some (.struct fs)) ∨ ∃ m e, P.underlying t = some (.array m e)) (hl0 : (leafT P n t).map (fun ts => ts.map P.underlying) = some (ks.map fun k => some (TypeDesc.int k)))
    (hv : Value.okWide P w r b0 t v) (h : DataW.Trod enc P w base spare held t v d p) :
    ∃ z : Nat → Int, v = .agg (intCells ks z).toArray ∧ ∀ (i : Nat) k, ks[i]? = some k → (Lit.int k (z i)).wf = true := by
  obtain ⟨ts, hlt, hk⟩ := Option.map_eq_some_iff.1 hl0
  have hcs : ∃ cs, v = .agg cs := by
    rcases ht with ⟨fs, ht⟩ | ⟨m, e, ht⟩
    · obtain ⟨cs, h1, _⟩ := okWide_struct ht hv; exact ⟨cs, h1⟩
    · obtain ⟨cs, h1, _⟩ := okWide_array ht hv; exact ⟨cs, h1⟩
  obtain ⟨cs, rfl⟩ := hcs
  obtain ⟨f, hf⟩ := h
  obtain ⟨z, hz, hl⟩ := (trod_leaf n f t _ _ ts hlt hf).ints hk
  refine ⟨z, ?_, fun i k hik => (hz i k hik).2⟩
  have := cells_ints hz hl
  simp only [Value.cells] at this
  rw [← this]

/-- A slice whose elements' leaves are all integers: where its cells lie, as one function of the cell's number. -/
theorem open_rows {r : Reach} {b0 : Nat} {t e : TypeId} {v : Value} {d : DataW H} {p : List MemPlace} (ks : List IntKind) (n : Nat)
    (ht : P.underlying t = some (.slice e)) (hl0 : (leafT P n e).map (fun ts => ts.map P.underlying) = some (ks.map fun k => some (TypeDesc.int k))) (hce : P.cellsOf e = ks.length) (hpos : 0 < ks.length)
    (hv : Value.okWide P w r b0 t v) (h : DataW.Trod enc P w base spare held t v d p) :
    ∃ (a : Option Addr) (len cap : Nat) (z : Nat → Nat → Int), v = .slice a len cap ∧ len ≤ 9223372036854775807 ∧ (a = none → len = 0 ∧ cap = 0) ∧ len ≤ cap ∧ cap ≤ 9223372036854775807 ∧
      ∀ i, i < len → ∃ b off, a = some ⟨b, off, none⟩ ∧ ∀ (j : Nat) k, ks[j]? = some k → w.cell? ⟨b, off + i * ks.length + j, none⟩ = some (.int k (z i j)) ∧ (Lit.int k (z i j)).wf = true := by
  obtain ⟨ts, hlt, hk⟩ := Option.map_eq_some_iff.1 hl0
  obtain ⟨a, len, cap, rfl⟩ := okWide_slice ht hv
  obtain ⟨f, hf⟩ := h
  simp only [Value.cells] at hf
  rcases DataW.trod_slice ht hf with ⟨hc, _⟩ | ⟨x, l, c, elems, rest, m, _, hc, _, _, hlc, hcm, hlen, hel, _, _⟩
  · simp only [List.cons.injEq, Value.slice.injEq, and_true] at hc
    obtain ⟨rfl, rfl, rfl⟩ := hc
    exact ⟨none, 0, 0, fun _ _ => 0, rfl, by omega, fun _ => ⟨rfl, rfl⟩, by omega, by omega, fun i hi => by omega⟩
  · simp only [List.cons.injEq, Value.slice.injEq, and_true] at hc
    obtain ⟨rfl, e1, e2⟩ := hc
    subst e1 e2
    have cellAt : ∀ i, i < len → ∃ z : Nat → Int, ∀ (j : Nat) k, ks[j]? = some k → w.cell? ((x.add (i * ks.length)).add j) = some (.int k (z j)) ∧ (Lit.int k (z j)).wf = true := by
      intro i hi
      have h1 := hel i hi
      rw [List.getElem?_eq_getElem (by omega), Option.bind_eq_some_iff] at h1
      obtain ⟨cs, hcs, hy⟩ := h1
      obtain ⟨z, hz, hzl⟩ := (trod_leaf n _ _ _ _ ts hlt hy).ints hk
      refine ⟨z, fun j k hjk => ?_⟩
      have hj := (List.getElem?_eq_some_iff.1 hjk).1
      rw [← hce, (World.cells?_some hcs).2.2 j (by omega)]
      exact hz j k hjk
    have hspot : 0 < len → x.spot = none := by
      intro h0
      obtain ⟨z, hz⟩ := cellAt 0 h0
      have := World.cell?_spot (hz 0 ks[0] (by simp [hpos])).1
      simpa [Addr.add] using this
    have key : ∀ i, ∃ z : Nat → Int, i < len → ∃ b off, some x = some (⟨b, off, none⟩ : Addr) ∧ ∀ (j : Nat) k, ks[j]? = some k → w.cell? ⟨b, off + i * ks.length + j, none⟩ = some (.int k (z j)) ∧ (Lit.int k (z j)).wf = true := by
      intro i
      by_cases hi : i < len
      · obtain ⟨z, hz⟩ := cellAt i hi
        have hs := hspot (by omega)
        obtain ⟨b, off, spot⟩ := x
        simp only at hs
        subst hs
        refine ⟨z, fun _ => ⟨b, off, rfl, fun j k hjk => ?_⟩⟩
        have := hz j k hjk
        have e : ((⟨b, off, none⟩ : Addr).add (i * ks.length)).add j = ⟨b, off + i * ks.length + j, none⟩ := by
          unfold Addr.add
          split <;> split <;> simp_all
        rwa [e] at this
      · exact ⟨fun _ => 0, fun h => absurd h hi⟩
    refine ⟨some x, len, cap, fun i => Classical.choose (key i), rfl, by unfold maxLen at hcm; omega, by simp, hlc, by unfold maxLen at hcm; omega, fun i hi => Classical.choose_spec (key i) hi⟩
end

/-! ### Slices of plain numbers, and of structs of numbers, by the number of the element and the cell -/
/-- A slice value of n elements of the kinds ks, whose cell j of element i holds z i j. -/
def Grid (ks : List IntKind) (w : World) (v : Value) (n : Nat) (z : Nat → Nat → Int) : Prop :=
  ∃ a cap, v = .slice a n cap ∧ n ≤ 9223372036854775807 ∧ (a = none → n = 0 ∧ cap = 0) ∧ n ≤ cap ∧ cap ≤ 9223372036854775807 ∧
    ∀ i, i < n → ∃ b off, a = some (⟨b, off, none⟩ : Addr) ∧ ∀ (j : Nat) k, ks[j]? = some k → w.cell? ⟨b, off + i * ks.length + j, none⟩ = some (.int k (z i j)) ∧ (Lit.int k (z i j)).wf = true

/-- A slice value of n numbers of the kind k. -/
def Nums (k : IntKind) (w : World) (v : Value) (n : Nat) (z : Nat → Int) : Prop :=
  ∃ a cap, v = .slice a n cap ∧ n ≤ 9223372036854775807 ∧ (a = none → n = 0 ∧ cap = 0) ∧ n ≤ cap ∧ cap ≤ 9223372036854775807 ∧
    ∀ i, i < n → ∃ b off, a = some (⟨b, off, none⟩ : Addr) ∧ w.cell? ⟨b, off + i, none⟩ = some (.int k (z i)) ∧ (Lit.int k (z i)).wf = true

theorem Grid.nums {k : IntKind} {w : World} {v : Value} {n : Nat} {z : Nat → Nat → Int} (h : Grid [k] w v n z) : Nums k w v n (fun i => z i 0) := by
  obtain ⟨a, cap, hv, hn, h0, h1, h2, hc⟩ := h
  refine ⟨a, cap, hv, hn, h0, h1, h2, fun i hi => ?_⟩
  obtain ⟨b, off, ha, hj⟩ := hc i hi
  exact ⟨b, off, ha, by simpa using hj 0 k rfl⟩

theorem block_of_cell {w : World} {a : Addr} {v : Value} (h : w.cell? a = some v) : a.block < w.heap.size := by
  rcases Nat.lt_or_ge a.block w.heap.size with h' | h'
  · exact h'
  · simp [World.cell?, Array.getElem?_eq_none h'] at h

theorem below_keeps {B : Nat} {w w' : World} (h : Below B w w') {a : Addr} {v : Value} (hB : a.block < B) (hc : w.cell? a = some v) : w'.cell? a = some v := by
  rw [h.cell hB]; exact hc
theorem below_holds {w w' : World} (h : Below w.heap.size w w') {a : Addr} {v : Value} (hc : w.cell? a = some v) : w'.cell? a = some v :=
  below_keeps h (block_of_cell hc) hc

theorem Grid.below {ks : List IntKind} {w w' : World} {v : Value} {n : Nat} {z : Nat → Nat → Int} (h : Grid ks w v n z) (hb : Below w.heap.size w w') : Grid ks w' v n z := by
  obtain ⟨a, cap, hv, hn, h0, h1, h2, hc⟩ := h
  refine ⟨a, cap, hv, hn, h0, h1, h2, fun i hi => ?_⟩
  obtain ⟨b, off, ha, hj⟩ := hc i hi
  exact ⟨b, off, ha, fun j k hk => ⟨below_holds hb (hj j k hk).1, (hj j k hk).2⟩⟩
theorem Nums.below {k : IntKind} {w w' : World} {v : Value} {n : Nat} {z : Nat → Int} (h : Nums k w v n z) (hb : Below w.heap.size w w') : Nums k w' v n z := by
  obtain ⟨a, cap, hv, hn, h0, h1, h2, hc⟩ := h
  refine ⟨a, cap, hv, hn, h0, h1, h2, fun i hi => ?_⟩
  obtain ⟨b, off, ha, hj⟩ := hc i hi
  exact ⟨b, off, ha, below_holds hb hj.1, hj.2⟩

/-- The numbers of a list, one by one. -/
def at0 (zs : List Int) (i : Nat) : Int := zs.getD i 0

/-- A new block of numbers, as a slice. -/
theorem nums_new (k : IntKind) (w : World) (T : TypeId) (C : Array Value) (zs : List Int) (m n : Nat) (hm : m = w.heap.size) (hn : n = zs.length) (hC : C = (zs.map (Value.int k)).toArray)
    (hw : ∀ x ∈ zs, (Lit.int k x).wf = true) (hl : n ≤ 9223372036854775807) :
    Nums k (w.alloc (.cells C T)) (.slice (some ⟨m, 0, none⟩) n n) n (at0 zs) := by
  subst hm hn hC
  refine ⟨_, _, rfl, hl, by simp, Nat.le_refl _, hl, fun i hi => ⟨_, _, rfl, ?_, ?_⟩⟩
  · rw [World.cell?_alloc_at _ _ _ _ rfl]
    simp [at0, hi]
  · unfold at0
    rw [List.getD_eq_getElem?_getD, List.getElem?_eq_getElem hi]
    exact hw _ (List.getElem_mem hi)

theorem below_then {w w1 w2 : World} (k : Below w1.heap.size w1 w2) (h : Below w.heap.size w w1) : Below w.heap.size w w2 := h.trans (k.mono h.size)

/-! ### A region that draws its order, with calls that make memory: one walk, in every world that has grown from the first -/
/-- The worlds that w has grown into. -/
structure Cls (w : World) where
  v : World
  h : Below w.heap.size w v
instance (w : World) : Nonempty (Cls w) := ⟨⟨w, Below.refl _ _⟩⟩
theorem wp_region_cls {P : Program} {id : Nat} {Q : Exit → Act → World → Prop} {a : Act} {w : World} {l : List Oper} (hm : P.follows .mixedOrders = true) (hB : Region.lexB .any l.toArray = true)
    (h : wpQuiet P l.toArray (fun w' => ∃ s : Cls w, w' = s.v) (fun a' => ∀ s : Cls w, Q .normal a' s.v) l a) : (Code.region id l.toArray true).wp P Q a w := by
  refine wp_region_quiet (C := fun w' => ∃ s : Cls w, w' = s.v) hm hB ⟨⟨_, Below.drew (Below.refl _ _)⟩, rfl⟩ ?_
  have e : (fun a' => ∀ w', (∃ s : Cls w, w' = s.v) → Q .normal a' w') = (fun a' => ∀ s : Cls w, Q .normal a' s.v) := by
    funext a'
    exact propext ⟨fun h s => h _ ⟨s, rfl⟩, fun h w' ⟨s, hs⟩ => hs ▸ h s⟩
  rw [e]
  simpa using h
theorem Cls.calls {P : Program} {f : FuncId} {args : Array Value} {w : World} {s : Cls w} {v : Value}
    (h : Calls P f args s.v fun e w' => e = .returned v ∧ Below s.v.heap.size s.v w') : Calls P f args s.v fun e w'' => e = .returned v ∧ ∃ s' : Cls w, w'' = s'.v :=
  h.mono fun _ w' ⟨he, hb⟩ => ⟨he, ⟨w', below_then hb s.h⟩, rfl⟩
theorem Cls.calls_same {P : Program} {f : FuncId} {args : Array Value} {w : World} {s : Cls w} {v : Value}
    (h : Calls P f args s.v fun e w' => e = .returned v ∧ s.v = w') : Calls P f args s.v fun e w'' => e = .returned v ∧ ∃ s' : Cls w, w'' = s'.v :=
  h.mono fun _ w' ⟨he, hb⟩ => ⟨he, s, hb.symm⟩
theorem Cls.cell {w : World} {a : Addr} {v : Value} (h : w.cell? a = some v) : ∀ s : Cls w, s.v.cell? a = some v := fun s => below_holds s.h h

theorem cell_new (w : World) (C : Array Value) (T : TypeId) (i : Nat) (v : Value) (h : C[i]? = some v) : (w.alloc (.cells C T)).cell? ⟨w.heap.size, i, none⟩ = some v := by
  rw [World.cell?_alloc_new]; exact h
theorem cell_old {w : World} {a : Addr} {v : Value} (o : Obj) (h : w.cell? a = some v) : (w.alloc o).cell? a = some v := by
  rw [World.cell?_alloc_lt _ _ _ (block_of_cell h)]; exact h

theorem heap_new (w : World) (o : Obj) (n : Nat) (h : n = w.heap.size) : (w.alloc o).heap[n]? = some o := by
  subst h
  show (w.heap.push o)[w.heap.size]? = _
  simp
theorem heap_lt {w : World} {n : Nat} {o : Obj} (h : w.heap[n]? = some o) : n < w.heap.size := by
  rcases Nat.lt_or_ge n w.heap.size with h' | h'
  · exact h'
  · rw [Array.getElem?_eq_none h'] at h; cases h
theorem heap_below {w w' : World} (hb : Below w.heap.size w w') {n : Nat} {o : Obj} (h : w.heap[n]? = some o) : w'.heap[n]? = some o := by
  rw [hb.block n (heap_lt h)]; exact h

/-- A loop's value after k rounds. -/
def loopN {α : Type} (f : Nat → α → α) (a : α) : Nat → α
  | 0 => a
  | k + 1 => f k (loopN f a k)
end Go.Proofs.Ytonlllijdbjkaaa
