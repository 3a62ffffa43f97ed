/- Any value that is handed in, opened, where what is read is of a bulk: no slice is longer, no text either. The bound is the statement's own. -/
import Derived.Test.YtonlllijdbjkaaaRows
import Derived.Test.YtonlllijdbjkaaaOpen
set_option linter.unusedVariables false
namespace Go.Proofs.Ytonlllijdbjkaaa
open Go.ChangeShapes Go.WideShapes Go.ChangeAt Go.RowKit

theorem bulk_one {H : Type} (d : DataW H) : 1 ≤ Rows.uptoBulk d := by
  cases d with
  | lit l => cases l <;> simp [Rows.uptoBulk]
  | _ => simp [Rows.uptoBulk]
theorem bulk_mem {H : Type} {d : DataW H} {l : List (DataW H)} (h : d ∈ l) : Rows.uptoBulk d ≤ Rows.uptoBulkAll l := by
  induction l with
  | nil => cases h
  | cons x r ih =>
    simp only [Rows.uptoBulkAll]
    cases List.mem_cons.1 h with
    | inl e => subst e; omega
    | inr e => have := ih e; omega
theorem bulk_len {H : Type} (l : List (DataW H)) : l.length ≤ Rows.uptoBulkAll l := by
  induction l with
  | nil => simp [Rows.uptoBulkAll]
  | cons x r ih => have := bulk_one x; simp only [Rows.uptoBulkAll, List.length_cons]; omega
theorem part_leB {H : Type} {x : DataW H × List MemPlace} {xs : List (DataW H × List MemPlace)} {p : List MemPlace} (h : x ∈ xs) : Rows.uptoBulk x.1 ≤ Rows.uptoBulk ((DataW.agg (xs.map (·.1)), p) : DataW H × List MemPlace).1 := by
  have := bulk_mem (List.mem_map.2 ⟨x, h, rfl⟩ : x.1 ∈ xs.map (·.1))
  simp only [Rows.uptoBulk]; omega
section
variable {H : Type} {enc : TypeId × Value → H} {P : Program} {w : World} {base : Nat} {spare : Nat → Bool} {held : Bool} {N : Nat}

/-- A cell that reads at a type. -/
def CellB (enc : TypeId × Value → H) (P : Program) (w : World) (base : Nat) (spare : Nat → Bool) (held : Bool) (N : Nat) (u : TypeId) (c : Value) : Prop :=
  ∃ f y, DataW.trod enc P w base spare held f u [c] = some y ∧ Rows.uptoBulk y.1 ≤ N

def CellsB (enc : TypeId × Value → H) (P : Program) (w : World) (base : Nat) (spare : Nat → Bool) (held : Bool) (N : Nat) (ts : List TypeId) (cs : List Value) : Prop :=
  cs.length = ts.length ∧ ∀ (i : Nat) (u : TypeId), ts[i]? = some u → ∃ c, cs[i]? = some c ∧ CellB enc P w base spare held N u c

theorem CellsB.append {ts ts' : List TypeId} {cs cs' : List Value} (h : CellsB enc P w base spare held N ts cs) (h' : CellsB enc P w base spare held N ts' cs') : CellsB enc P w base spare held N (ts ++ ts') (cs ++ cs') := by
  refine ⟨by simp [h.1, h'.1], fun i u hu => ?_⟩
  by_cases hi : i < ts.length
  · rw [List.getElem?_append_left hi] at hu
    obtain ⟨c, hc, k⟩ := h.2 i u hu
    exact ⟨c, by rw [List.getElem?_append_left (by rw [h.1]; exact hi)]; exact hc, k⟩
  · rw [List.getElem?_append_right (by omega)] at hu
    obtain ⟨c, hc, k⟩ := h'.2 _ u hu
    exact ⟨c, by rw [List.getElem?_append_right (by rw [h.1]; omega), h.1]; exact hc, k⟩

theorem CellsB.nil : CellsB enc P w base spare held N [] [] := ⟨rfl, fun i u h => by simp at h⟩

theorem leafGo_cellsB {d : Nat} (ih : ∀ f t cs x ts, leafT P d t = some ts → DataW.trod enc P w base spare held f t cs = some x → Rows.uptoBulk x.1 ≤ N → CellsB enc P w base spare held N ts cs)
    (m : Nat) (cs : List Value) : ∀ (fs : List Field) (off : Nat) (ts : List TypeId), leafGo (leafT P d) P fs off = some ts → off + ts.length = cs.length →
    (∀ f ∈ fs, ∃ y, DataW.trod enc P w base spare held m f.type ((cs.drop f.offset).take (P.cellsOf f.type)) = some y ∧ Rows.uptoBulk y.1 ≤ N) → CellsB enc P w base spare held N ts (cs.drop off) := by
  intro fs
  induction fs with
  | nil =>
    intro off ts h hl _
    simp only [leafGo, Option.some.injEq] at h
    subst h
    rw [List.drop_of_length_le (by simp at hl; omega)]
    exact .nil
  | cons f fs ihf =>
    intro off ts h hl hf
    simp only [leafGo, Option.bind_eq_some_iff] at h
    obtain ⟨t1, h1, h2⟩ := h
    split at h2
    case isFalse => cases h2
    rename_i hc
    obtain ⟨hc1, hc2⟩ := hc
    simp only [Option.map_eq_some_iff] at h2
    obtain ⟨t2, h3, rfl⟩ := h2
    obtain ⟨y, hy, hb⟩ := hf f (by simp)
    have k1 := ih _ _ _ _ _ h1 hy hb
    have k2 := ihf _ _ h3 (by simp at hl; omega) (fun g hg => hf g (by simp [hg]))
    have e : cs.drop off = (cs.drop off).take t1.length ++ cs.drop (off + t1.length) := by
      rw [← List.drop_drop, List.take_append_drop]
    rw [e]
    rw [hc1, hc2] at k1
    exact k1.append k2

theorem leafRep_cellsB {e : TypeId} {d : Nat} (ih : ∀ f t cs x ts, leafT P d t = some ts → DataW.trod enc P w base spare held f t cs = some x → Rows.uptoBulk x.1 ≤ N → CellsB enc P w base spare held N ts cs)
    (m : Nat) (cs : List Value) (ts : List TypeId) (hts : leafT P d e = some ts) : ∀ (n : Nat), n * ts.length ≤ cs.length →
    (∀ i, i < n → ∃ y, DataW.trod enc P w base spare held m e ((cs.drop (i * ts.length)).take ts.length) = some y ∧ Rows.uptoBulk y.1 ≤ N) → CellsB enc P w base spare held N (leafRep ts n) (cs.take (n * ts.length)) := by
  intro n
  induction n with
  | zero => intro _ _; simpa [leafRep] using CellsB.nil
  | succ n ihn =>
    intro hl hf
    have hl' : n * ts.length + ts.length ≤ cs.length := by rw [Nat.succ_mul] at hl; exact hl
    have k1 := ihn (by omega) (fun i hi => hf i (by omega))
    obtain ⟨y, hy, hb⟩ := hf n (by omega)
    have k2 := ih _ _ _ _ _ hts hy hb
    have e : cs.take ((n + 1) * ts.length) = cs.take (n * ts.length) ++ (cs.drop (n * ts.length)).take ts.length := by
      rw [Nat.succ_mul, List.take_add]
    rw [e]
    exact k1.append k2

/-- WHAT READS AT A TYPE READS LEAF BY LEAF. -/
theorem trod_leafB : ∀ (d f : Nat) (t : TypeId) (cs : List Value) (x : DataW H × List MemPlace) (ts : List TypeId), leafT P d t = some ts → DataW.trod enc P w base spare held f t cs = some x → Rows.uptoBulk x.1 ≤ N → CellsB enc P w base spare held N ts cs := by
  intro d
  induction d with
  | zero => intro f t cs x ts h; simp [leafT] at h
  | succ d ih =>
    intro f t cs x ts h hx hbk
    simp only [leafT] at h
    split at h
    · rename_i fs hu
      simp only [Option.bind_eq_some_iff] at h
      obtain ⟨ts', h1, h2⟩ := h
      split at h2
      case isFalse => cases h2
      rename_i hc
      cases h2
      obtain ⟨xs, m, _, rfl, hl, hxl, hf⟩ := DataW.trod_struct hu hx
      have := leafGo_cellsB ih m cs fs.toList 0 ts h1 (by omega) (fun f hf' => by
        obtain ⟨i, hi, rfl⟩ := List.getElem_of_mem hf'
        have hi' : i < fs.size := by simpa using hi
        have := hf i fs[i] (by simp [hi'])
        have hx : i < xs.length := by omega
        exact ⟨xs[i], by rw [List.getElem?_eq_getElem hx] at this; simpa using this, Nat.le_trans (part_leB (List.getElem_mem hx)) hbk⟩)
      simpa using this
    · rename_i n e hu
      simp only [Option.bind_eq_some_iff] at h
      obtain ⟨ts', h1, h2⟩ := h
      split at h2
      case isFalse => cases h2
      rename_i hc
      obtain ⟨hc1, hc2⟩ := hc
      cases h2
      obtain ⟨xs, m, _, rfl, hl, hxl, hf⟩ := DataW.trod_array hu hx
      rw [leafRep_length] at hc2
      have := leafRep_cellsB ih m cs ts' h1 n (by omega) (fun i hi => by
        have h3 := hf i hi
        have hx : i < xs.length := by omega
        rw [hc1, List.getElem?_eq_getElem hx] at h3
        exact ⟨_, h3, Nat.le_trans (part_leB (List.getElem_mem hx)) hbk⟩)
      rwa [List.take_of_length_le (by omega)] at this
    · rename_i v hns hna hu
      split at h
      case isFalse => cases h
      cases h
      have hl := trod_any_len hu hns hna hx
      obtain ⟨c, rfl⟩ := List.length_eq_one_iff.1 hl
      refine ⟨rfl, fun i u hi => ?_⟩
      cases i with
      | zero => simp at hi; subst hi; exact ⟨c, rfl, f, x, hx, hbk⟩
      | succ i => simp at hi
    · cases h
/-- A content that fits: slices, texts no longer than N. -/
def CtB (N : Nat) : Nat → Sh → Ct → Prop
  | _, .int k, c => (Lit.int k c.int).wf = true
  | _, .bool, _ => True
  | _, .str, c => c.str.size ≤ N
  | _, .fn _, _ => False
  | 0, .sl _, _ => False
  | d + 1, .sl e, c => c.rows.length ≤ N ∧ ∀ i, i < c.rows.length → ∀ (j : Nat) s, e[j]? = some s → CtB N d s (rd c.rows i j)
theorem open_leafB (n : Nat) : ∀ (d : Nat) (t : TypeId) (s : Sh) (c : Value), shLeaf P n d t = some s → CellB enc P w base spare held N t c → ∃ ct, CtHolds w (Lt w) d s ct c ∧ CtB N d s ct := by
  intro d
  induction d with
  | zero => intro t s c h; simp [shLeaf] at h
  | succ d ih =>
    intro t s c h ht
    obtain ⟨f, y, hy, hbk⟩ := ht
    simp only [shLeaf] at h
    split at h
    · rename_i k hu
      cases h
      obtain ⟨m, hm, _, hw⟩ := DataW.trod_int hu hy
      simp only [List.cons.injEq, and_true] at hm
      exact ⟨.i m, hm, hw⟩
    · rename_i hu
      cases h
      obtain ⟨b, hb, _⟩ := DataW.trod_bool hu hy
      simp only [List.cons.injEq, and_true] at hb
      exact ⟨.b b, hb, trivial⟩
    · rename_i hu
      cases h
      obtain ⟨b, hb, hyx, hs⟩ := DataW.trod_string hu hy
      simp only [List.cons.injEq, and_true] at hb
      exact ⟨.s b, hb, show b.size ≤ N from by
        subst hyx
        simp only [Rows.uptoBulk] at hbk
        have e : b.data.toList.length = b.size := by rw [Array.length_toList]; rfl
        omega⟩
    · rename_i e hu
      simp only [Option.bind_eq_some_iff] at h
      obtain ⟨ts, hts, h⟩ := h
      split at h
      case isFalse => cases h
      rename_i hc
      obtain ⟨hce, hpos⟩ := hc
      obtain ⟨sh, hsh, rfl⟩ := Option.map_eq_some_iff.1 h
      obtain ⟨hshl, hsh⟩ := mapM_get hsh
      rcases DataW.trod_slice hu hy with ⟨hc, _⟩ | ⟨x, l, cp, elems, rest, m, _, hc, hyx, _, hlc, hcm, hlen, hel, _, _⟩
      · simp only [List.cons.injEq, and_true] at hc
        subst hc
        exact ⟨.l [], ⟨none, 0, rfl, by simp [Ct.rows], by omega, fun _ => rfl, fun i hi => by simp [Ct.rows] at hi⟩, by simp [Ct.rows], fun i hi => by simp [Ct.rows] at hi⟩
      · simp only [List.cons.injEq, and_true] at hc
        subst hc
        have hall : Rows.uptoBulkAll (elems.map (·.1)) ≤ N := by
          subst hyx
          simp only [Rows.uptoBulk] at hbk
          omega
        have hlN : l ≤ N := by
          have := bulk_len (elems.map (·.1))
          simp only [List.length_map] at this
          omega
        have cellAt : ∀ i, i < l → ∀ (j : Nat), ∃ ct, ∀ s, sh[j]? = some s → ∃ u, w.cell? ((x.add (i * sh.length)).add j) = some u ∧ CtHolds w (Lt w) d s ct u ∧ CtB N d s ct := by
          intro i hi j
          by_cases hj : j < sh.length
          · have h1 := hel i hi
            rw [List.getElem?_eq_getElem (by omega), Option.bind_eq_some_iff] at h1
            obtain ⟨cs, hcs, hy'⟩ := h1
            have hcells := trod_leafB (N := N) n _ _ _ _ ts hts hy' (Nat.le_trans (bulk_mem (List.mem_map.2 ⟨_, List.getElem_mem _, rfl⟩)) hall)
            obtain ⟨tj, htj, hsj⟩ := hsh j sh[j] (List.getElem?_eq_getElem hj)
            obtain ⟨u, hu', hct⟩ := hcells.2 j tj htj
            obtain ⟨ct, h2, h3⟩ := ih tj sh[j] u hsj hct
            refine ⟨ct, fun s hs => ⟨u, ?_, ?_⟩⟩
            · rw [show i * sh.length = i * P.cellsOf e by rw [hshl, hce], (World.cells?_some hcs).2.2 j (by omega)]; exact hu'
            · rw [List.getElem?_eq_getElem hj] at hs; cases hs; exact ⟨h2, h3⟩
          · exact ⟨.i 0, fun s hs => by rw [List.getElem?_eq_none (by omega)] at hs; cases hs⟩
        have hcell : ∀ i j, ∃ ct, i < l → ∀ s, sh[j]? = some s → ∃ u, w.cell? ((x.add (i * sh.length)).add j) = some u ∧ CtHolds w (Lt w) d s ct u ∧ CtB N d s ct := by
          intro i j
          by_cases hi : i < l
          · obtain ⟨ct, h⟩ := cellAt i hi j; exact ⟨ct, fun _ => h⟩
          · exact ⟨.i 0, fun h => absurd h hi⟩
        have hspot : 0 < l → x.spot = none := by
          intro h0
          obtain ⟨ct, hct⟩ := cellAt 0 h0 0
          obtain ⟨u, hu', _⟩ := hct _ (List.getElem?_eq_getElem (by omega))
          have := World.cell?_spot hu'
          simpa [Addr.add] using this
        let g : Nat → Nat → Ct := fun i j => Classical.choose (hcell i j)
        let rows : List (List Ct) := (List.range l).map fun i => (List.range sh.length).map fun j => g i j
        have hrl : rows.length = l := by simp [rows]
        have hrd : ∀ i j, i < l → j < sh.length → rd rows i j = g i j := by
          intro i j hi hj
          simp [rd, rows, hi, hj]
        refine ⟨.l rows, ⟨some x, cp, by simp [Ct.rows, hrl], by simp only [Ct.rows, hrl]; exact hlc, by unfold maxLen at hcm; omega, (fun h => by cases h), fun i hi => ?_⟩, by simp only [Ct.rows, hrl]; exact hlN, fun i hi j s hs => ?_⟩
        · simp only [Ct.rows, hrl] at hi
          have hs := hspot (by omega)
          obtain ⟨b, off, spot⟩ := x
          simp only at hs
          subst hs
          have e1 : ∀ j, ((⟨b, off, none⟩ : Addr).add (i * sh.length)).add j = ⟨b, off + i * sh.length + j, none⟩ := by
            intro j
            unfold Addr.add
            split <;> split <;> simp_all
          refine ⟨b, off, rfl, ?_, fun j s hs => ?_⟩
          · obtain ⟨u, hu', _⟩ := Classical.choose_spec (hcell i 0) hi _ (List.getElem?_eq_getElem (by omega : 0 < sh.length))
            rw [e1] at hu'
            exact cell_lt hu'
          · have hj : j < sh.length := (List.getElem?_eq_some_iff.1 hs).1
            obtain ⟨u, hu', h2, h3⟩ := Classical.choose_spec (hcell i j) hi s hs
            rw [e1] at hu'
            refine ⟨u, hu', ?_⟩
            simp only [Ct.rows]
            rw [hrd i j hi hj]; exact h2
        · simp only [Ct.rows, hrl] at hi
          have hj : j < sh.length := (List.getElem?_eq_some_iff.1 hs).1
          obtain ⟨u, hu', h2, h3⟩ := Classical.choose_spec (hcell i j) hi s hs
          simp only [Ct.rows]
          rw [hrd i j hi hj]; exact h3
    · cases h
/-- What a value's cells hold: one content each. -/
theorem open_anyB {t : TypeId} {v : Value} {x : DataW H} {p : List MemPlace} (n : Nat) {sh : List Sh} (hl : (leafT P n t).bind (fun ts => ts.mapM (shLeaf P n 8)) = some sh) (h : DataW.Trod enc P w base spare held t v x p) (hN : Rows.uptoBulk x ≤ N) :
    ∃ ct : Nat → Ct, v.cells.toList.length = sh.length ∧ ∀ (j : Nat) s, sh[j]? = some s → ∃ u, v.cells.toList[j]? = some u ∧ CtHolds w (Lt w) 8 s (ct j) u ∧ CtB N 8 s (ct j) := by
  obtain ⟨ts, hts, hsh⟩ := Option.bind_eq_some_iff.1 hl
  obtain ⟨hl1, hsh⟩ := mapM_get hsh
  obtain ⟨f, hf⟩ := h
  have hcells := trod_leafB n f t _ _ ts hts hf hN
  have key : ∀ (j : Nat), ∃ ct, ∀ s, sh[j]? = some s → ∃ u, v.cells.toList[j]? = some u ∧ CtHolds w (Lt w) 8 s ct u ∧ CtB N 8 s ct := by
    intro j
    by_cases hj : j < sh.length
    · obtain ⟨tj, htj, hsj⟩ := hsh j sh[j] (List.getElem?_eq_getElem hj)
      obtain ⟨u, hu, hct⟩ := hcells.2 j tj htj
      obtain ⟨ct, h2⟩ := open_leafB n 8 tj sh[j] u hsj hct
      exact ⟨ct, fun s hs => ⟨u, hu, by rw [List.getElem?_eq_getElem hj] at hs; cases hs; exact h2⟩⟩
    · exact ⟨.i 0, fun s hs => by rw [List.getElem?_eq_none (by omega)] at hs; cases hs⟩
  exact ⟨fun j => Classical.choose (key j), by rw [hcells.1, hl1], fun j => Classical.choose_spec (key j)⟩
end
theorem CtB.wf {N : Nat} (hN : N ≤ 9223372036854775807) : ∀ (d : Nat) (s : Sh) (c : Ct), CtB N d s c → CtWf d s c := by
  intro d
  induction d with
  | zero =>
    intro s c h
    cases s with
    | int k => simpa [CtB, CtWf] using h
    | bool => simp [CtWf]
    | str => simp only [CtB, CtWf] at h ⊢; omega
    | sl e => simp [CtB] at h
    | fn al => simp [CtB] at h
  | succ d ih =>
    intro s c h
    cases s with
    | int k => simpa [CtB, CtWf] using h
    | bool => simp [CtWf]
    | str => simp only [CtB, CtWf] at h ⊢; omega
    | fn al => simp [CtB] at h
    | sl e =>
      simp only [CtB, CtWf] at h ⊢
      exact ⟨by omega, fun i hi j s hs => ih s _ (h.2 i hi j s hs)⟩
structure CellsU (w : World) (sh : List Sh) (vs : List Value) (ct : Nat → Ct) : Prop where
  ok : CellsOk w sh vs ct
  bd : ∀ (i : Nat) s, sh[i]? = some s → CtB 1048576 8 s (ct i)
theorem CellsU.nil (w : World) : CellsU w [] [] (fun _ => .i 0) := ⟨.nil w, fun i s h => by simp at h⟩
theorem CellsU.append {w : World} {sh sh' : List Sh} {vs vs' : List Value} {ct ct' : Nat → Ct} (h : CellsU w sh vs ct) (k : CellsU w sh' vs' ct') : CellsU w (sh ++ sh') (vs ++ vs') (ctApp sh.length ct ct') := by
  refine ⟨h.ok.append k.ok, fun i s hs => ?_⟩
  unfold ctApp
  by_cases hi : i < sh.length
  · rw [List.getElem?_append_left hi] at hs
    rw [if_pos hi]
    exact h.bd i s hs
  · rw [List.getElem?_append_right (by omega)] at hs
    rw [if_neg hi]
    exact k.bd _ s hs
theorem open_cellsU {H : Type} {enc : TypeId × Value → H} {P : Program} {w : World} {base : Nat} {spare : Nat → Bool} {held : Bool} {t : TypeId} {v : Value} {x : DataW H} {p : List MemPlace} (n : Nat) (sh : List Sh) (hl : (leafT P n t).bind (fun ts => ts.mapM (shLeaf P n 8)) = some sh) (h : DataW.Trod enc P w base spare held t v x p)
    (hN : Rows.uptoBulk x ≤ 1048576) : ∃ ct : Nat → Ct, CellsU w sh v.cells.toList ct := by
  obtain ⟨ct, h1, h2⟩ := open_anyB n hl h hN
  exact ⟨ct, ⟨h1, fun i s hs => by
    obtain ⟨u, k1, k2, k3⟩ := h2 i s hs
    exact ⟨u, k1, k2, k3.wf (by omega)⟩⟩, fun i s hs => by
    obtain ⟨u, k1, k2, k3⟩ := h2 i s hs
    exact k3⟩
theorem small_all {H : Type} {l : List (DataW H)} (hk : Rows.uptoSmall H l = true) : Rows.uptoBulkAll l ≤ 1048576 := of_decide_eq_true hk
end Go.Proofs.Ytonlllijdbjkaaa
