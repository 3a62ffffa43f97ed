/- Any value that is handed in, opened: its cells' contents, slices row by row, however deep. No condition. -/
import Derived.Test.YtonlllijdbjkaaaEngE
import Derived.OpenShut
set_option linter.unusedVariables false
namespace Go.Proofs.Ytonlllijdbjkaaa
open Go.RowKit

/-- The kind of a leaf. -/
def shLeaf (P : Program) (n : Nat) : Nat → TypeId → Option Sh
  | 0, _ => none
  | d + 1, t => match P.underlying t with
    | some (.int k) => some (.int k)
    | some .bool => some .bool
    | some .string => some .str
    | some (.slice e) => (leafT P n e).bind fun ts => if P.cellsOf e = ts.length ∧ 0 < ts.length then (ts.mapM (shLeaf P n d)).map .sl else none
    | _ => none
/-- A content that fits: numbers of their kind's range, slices no longer than any. -/
def CtWf : Nat → Sh → Ct → Prop
  | _, .int k, c => (Lit.int k c.int).wf = true
  | _, .bool, _ => True
  | _, .str, c => c.str.size ≤ 9223372036854775807
  | _, .fn _, _ => False
  | 0, .sl _, _ => False
  | d + 1, .sl e, c => c.rows.length ≤ 9223372036854775807 ∧ ∀ i, i < c.rows.length → ∀ (j : Nat) s, e[j]? = some s → CtWf d s (rd c.rows i j)
theorem CtWf.noFn {d : Nat} {s : Sh} {c : Ct} (h : CtWf d s c) : s.isFn = false := by
  cases s with
  | fn al => cases d <;> exact False.elim h
  | _ => rfl
theorem mapM_get {α β : Type} {f : α → Option β} : ∀ {l : List α} {r : List β}, l.mapM f = some r → r.length = l.length ∧ ∀ (i : Nat) b, r[i]? = some b → ∃ a, l[i]? = some a ∧ f a = some b := by
  intro l
  induction l with
  | nil => intro r h; simp at h; subst h; exact ⟨rfl, fun i b h => by simp at h⟩
  | cons a l ih =>
    intro r h
    rw [List.mapM_cons] at h
    cases hfa : f a with
    | none => rw [hfa] at h; cases h
    | some b =>
      cases hl : l.mapM f with
      | none => rw [hfa, hl] at h; cases h
      | some r' =>
        rw [hfa, hl] at h
        have h' : b :: r' = r := by simpa using h
        subst h'
        obtain ⟨h1, h2⟩ := ih hl
        refine ⟨by simp [h1], fun i b' hb => ?_⟩
        cases i with
        | zero => simp at hb; subst hb; exact ⟨a, rfl, hfa⟩
        | succ i => exact h2 i b' (by simpa using hb)
section
variable {H : Type} {enc : TypeId × Value → H} {P : Program} {w : World} {base : Nat} {spare : Nat → Bool} {held : Bool}
def Lt (w : World) (b : Nat) : Prop := b < w.heap.size
theorem cell_lt {w : World} {a : Addr} {v : Value} (h : w.cell? a = some v) : a.block < w.heap.size := by
  rcases Nat.lt_or_ge a.block w.heap.size with h' | h'
  · exact h'
  · simp [World.cell?, Array.getElem?_eq_none h'] at h
theorem open_leaf (n : Nat) : ∀ (d : Nat) (t : TypeId) (s : Sh) (c : Value), shLeaf P n d t = some s → CellT enc P w base spare held t c → ∃ ct, CtHolds w (Lt w) d s ct c ∧ CtWf d s ct := by
  intro d
  induction d with
  | zero => intro t s c h; simp [shLeaf] at h
  | succ d ih =>
    intro t s c h ht
    obtain ⟨f, y, hy⟩ := ht
    simp only [shLeaf] at h
    split at h
    · rename_i k hu
      cases h
      obtain ⟨m, hm, _, hw⟩ := DataW.trod_int hu hy
      simp only [List.cons.injEq, and_true] at hm
      exact ⟨.i m, hm, hw⟩
    · rename_i hu
      cases h
      obtain ⟨b, hb, _⟩ := DataW.trod_bool hu hy
      simp only [List.cons.injEq, and_true] at hb
      exact ⟨.b b, hb, trivial⟩
    · rename_i hu
      cases h
      obtain ⟨b, hb, _, hs⟩ := DataW.trod_string hu hy
      simp only [List.cons.injEq, and_true] at hb
      exact ⟨.s b, hb, show b.size ≤ 9223372036854775807 from by simpa [maxLen] using hs⟩
    · rename_i e hu
      simp only [Option.bind_eq_some_iff] at h
      obtain ⟨ts, hts, h⟩ := h
      split at h
      case isFalse => cases h
      rename_i hc
      obtain ⟨hce, hpos⟩ := hc
      obtain ⟨sh, hsh, rfl⟩ := Option.map_eq_some_iff.1 h
      obtain ⟨hshl, hsh⟩ := mapM_get hsh
      rcases DataW.trod_slice hu hy with ⟨hc, _⟩ | ⟨x, l, cp, elems, rest, m, _, hc, _, _, hlc, hcm, hlen, hel, _, _⟩
      · simp only [List.cons.injEq, and_true] at hc
        subst hc
        exact ⟨.l [], ⟨none, 0, rfl, by simp [Ct.rows], by omega, fun _ => rfl, fun i hi => by simp [Ct.rows] at hi⟩, by simp [Ct.rows], fun i hi => by simp [Ct.rows] at hi⟩
      · simp only [List.cons.injEq, and_true] at hc
        subst hc
        have cellAt : ∀ i, i < l → ∀ (j : Nat), ∃ ct, ∀ s, sh[j]? = some s → ∃ u, w.cell? ((x.add (i * sh.length)).add j) = some u ∧ CtHolds w (Lt w) d s ct u ∧ CtWf d s ct := by
          intro i hi j
          by_cases hj : j < sh.length
          · have h1 := hel i hi
            rw [List.getElem?_eq_getElem (by omega), Option.bind_eq_some_iff] at h1
            obtain ⟨cs, hcs, hy'⟩ := h1
            have hcells := trod_leaf n _ _ _ _ ts hts hy'
            obtain ⟨tj, htj, hsj⟩ := hsh j sh[j] (List.getElem?_eq_getElem hj)
            obtain ⟨u, hu', hct⟩ := hcells.2 j tj htj
            obtain ⟨ct, h2, h3⟩ := ih tj sh[j] u hsj hct
            refine ⟨ct, fun s hs => ⟨u, ?_, ?_⟩⟩
            · rw [show i * sh.length = i * P.cellsOf e by rw [hshl, hce], (World.cells?_some hcs).2.2 j (by omega)]; exact hu'
            · rw [List.getElem?_eq_getElem hj] at hs; cases hs; exact ⟨h2, h3⟩
          · exact ⟨.i 0, fun s hs => by rw [List.getElem?_eq_none (by omega)] at hs; cases hs⟩
        have hcell : ∀ i j, ∃ ct, i < l → ∀ s, sh[j]? = some s → ∃ u, w.cell? ((x.add (i * sh.length)).add j) = some u ∧ CtHolds w (Lt w) d s ct u ∧ CtWf d s ct := by
          intro i j
          by_cases hi : i < l
          · obtain ⟨ct, h⟩ := cellAt i hi j; exact ⟨ct, fun _ => h⟩
          · exact ⟨.i 0, fun h => absurd h hi⟩
        have hspot : 0 < l → x.spot = none := by
          intro h0
          obtain ⟨ct, hct⟩ := cellAt 0 h0 0
          obtain ⟨u, hu', _⟩ := hct _ (List.getElem?_eq_getElem (by omega))
          have := World.cell?_spot hu'
          simpa [Addr.add] using this
        let g : Nat → Nat → Ct := fun i j => Classical.choose (hcell i j)
        let rows : List (List Ct) := (List.range l).map fun i => (List.range sh.length).map fun j => g i j
        have hrl : rows.length = l := by simp [rows]
        have hrd : ∀ i j, i < l → j < sh.length → rd rows i j = g i j := by
          intro i j hi hj
          simp [rd, rows, hi, hj]
        refine ⟨.l rows, ⟨some x, cp, by simp [Ct.rows, hrl], by simp only [Ct.rows, hrl]; exact hlc, by unfold maxLen at hcm; omega, (fun h => by cases h), fun i hi => ?_⟩, by simp only [Ct.rows, hrl]; unfold maxLen at hcm; omega, fun i hi j s hs => ?_⟩
        · simp only [Ct.rows, hrl] at hi
          have hs := hspot (by omega)
          obtain ⟨b, off, spot⟩ := x
          simp only at hs
          subst hs
          have e1 : ∀ j, ((⟨b, off, none⟩ : Addr).add (i * sh.length)).add j = ⟨b, off + i * sh.length + j, none⟩ := by
            intro j
            unfold Addr.add
            split <;> split <;> simp_all
          refine ⟨b, off, rfl, ?_, fun j s hs => ?_⟩
          · obtain ⟨u, hu', _⟩ := Classical.choose_spec (hcell i 0) hi _ (List.getElem?_eq_getElem (by omega : 0 < sh.length))
            rw [e1] at hu'
            exact cell_lt hu'
          · have hj : j < sh.length := (List.getElem?_eq_some_iff.1 hs).1
            obtain ⟨u, hu', h2, h3⟩ := Classical.choose_spec (hcell i j) hi s hs
            rw [e1] at hu'
            refine ⟨u, hu', ?_⟩
            simp only [Ct.rows]
            rw [hrd i j hi hj]; exact h2
        · simp only [Ct.rows, hrl] at hi
          have hj : j < sh.length := (List.getElem?_eq_some_iff.1 hs).1
          obtain ⟨u, hu', h2, h3⟩ := Classical.choose_spec (hcell i j) hi s hs
          simp only [Ct.rows]
          rw [hrd i j hi hj]; exact h3
    · cases h
/-- What a value's cells hold: one content each. -/
theorem open_any {r : Reach} {b0 : Nat} {t : TypeId} {v : Value} {x : DataW H} {p : List MemPlace} (n : Nat) {sh : List Sh} (hl : (leafT P n t).bind (fun ts => ts.mapM (shLeaf P n 8)) = some sh) (h : DataW.Trod enc P w base spare held t v x p) :
    ∃ ct : Nat → Ct, v.cells.toList.length = sh.length ∧ ∀ (j : Nat) s, sh[j]? = some s → ∃ u, v.cells.toList[j]? = some u ∧ CtHolds w (Lt w) 8 s (ct j) u ∧ CtWf 8 s (ct j) := by
  obtain ⟨ts, hts, hsh⟩ := Option.bind_eq_some_iff.1 hl
  obtain ⟨hl1, hsh⟩ := mapM_get hsh
  obtain ⟨f, hf⟩ := h
  have hcells := trod_leaf n f t _ _ ts hts hf
  have key : ∀ (j : Nat), ∃ ct, ∀ s, sh[j]? = some s → ∃ u, v.cells.toList[j]? = some u ∧ CtHolds w (Lt w) 8 s ct u ∧ CtWf 8 s ct := by
    intro j
    by_cases hj : j < sh.length
    · obtain ⟨tj, htj, hsj⟩ := hsh j sh[j] (List.getElem?_eq_getElem hj)
      obtain ⟨u, hu, hct⟩ := hcells.2 j tj htj
      obtain ⟨ct, h2⟩ := open_leaf n 8 tj sh[j] u hsj hct
      exact ⟨ct, fun s hs => ⟨u, hu, by rw [List.getElem?_eq_getElem hj] at hs; cases hs; exact h2⟩⟩
    · exact ⟨.i 0, fun s hs => by rw [List.getElem?_eq_none (by omega)] at hs; cases hs⟩
  exact ⟨fun j => Classical.choose (key j), by rw [hcells.1, hl1], fun j => Classical.choose_spec (key j)⟩
end
/-- A value that is one cell. -/
theorem one_cell {v u : Value} (h1 : v.cells.toList.length = 1) (h2 : v.cells.toList[0]? = some u) (hne : ∀ cs, v ≠ .agg cs) : v = u := by
  cases v with
  | agg cs => exact absurd rfl (hne cs)
  | _ => simpa [Value.cells] using h2
/-- What the cells of a value are worth, under names from nx on. -/
def argCV : List Sh → (Nat → Ct) → Nat → Nat → List CV
  | [], _, _, _ => []
  | .int k :: sh, ct, j, nx => .val false (.int k (ct j).int) :: argCV sh ct (j + 1) nx
  | .bool :: sh, ct, j, nx => .val false (.bool (ct j).bool) :: argCV sh ct (j + 1) nx
  | .str :: sh, ct, j, nx => .val false (.string (ct j).str) :: argCV sh ct (j + 1) nx
  | .sl _ :: sh, ct, j, nx => .ext nx :: argCV sh ct (j + 1) (nx + 1)
  | .fn _ :: sh, ct, j, nx => .val true undef :: argCV sh ct (j + 1) nx
def argHp : List Sh → (Nat → Ct) → Nat → Nat → Hp
  | [], _, _, _ => []
  | .sl e :: sh, ct, j, nx => (nx, .grid e (ct j).rows) :: argHp sh ct (j + 1) (nx + 1)
  | _ :: sh, ct, j, nx => argHp sh ct (j + 1) nx
theorem arg_ok {w : World} : ∀ (sh : List Sh) (ct : Nat → Ct) (vs : List Value) (j nx : Nat) (e : Env), vs.length = sh.length → (∀ (i : Nat) s, sh[i]? = some s → ∃ u, vs[i]? = some u ∧ CtHolds w (Lt w) 8 s (ct (j + i)) u ∧ s.isFn = false) →
    ∃ e', (∀ id, id < nx ∨ rowNx sh nx ≤ id → e.same e' id) ∧ nx ≤ rowNx sh nx ∧ (argCV sh ct j nx).map (CV.den e') = vs ∧ ∀ id o, hlook (argHp sh ct j nx) id = some o → nx ≤ id ∧ id < rowNx sh nx ∧ o.holds e' w id ∧ ∀ b, ¬ o.owns e' id b := by
  intro sh
  induction sh with
  | nil =>
    intro ct vs j nx e hl _
    exact ⟨e, fun _ _ => .refl _ _, Nat.le_refl _, by simpa [argCV, eq_comm] using List.length_eq_zero_iff.1 hl, fun id o h => by simp [argHp, hlook] at h⟩
  | cons s sh ih =>
    intro ct vs j nx e hl hc
    cases vs with
    | nil => cases hl
    | cons v vs =>
      have hl' : vs.length = sh.length := by simpa using hl
      have hc' : ∀ (i : Nat) s, sh[i]? = some s → ∃ u, vs[i]? = some u ∧ CtHolds w (Lt w) 8 s (ct (j + 1 + i)) u ∧ s.isFn = false := fun i s' hs => by
        have := hc (i + 1) s' (by simpa using hs)
        rw [show j + 1 + i = j + (i + 1) by omega]
        simpa using this
      obtain ⟨u, hu, hh, hnf⟩ := hc 0 s rfl
      simp only [List.getElem?_cons_zero, Option.some.injEq] at hu
      subst hu
      rw [Nat.add_zero] at hh
      have flat : ∀ c : CV, (∀ e', c.den e' = v) → argCV (s :: sh) ct j nx = c :: argCV sh ct (j + 1) nx → argHp (s :: sh) ct j nx = argHp sh ct (j + 1) nx → rowNx (s :: sh) nx = rowNx sh nx →
          ∃ e', (∀ id, id < nx ∨ rowNx (s :: sh) nx ≤ id → e.same e' id) ∧ nx ≤ rowNx (s :: sh) nx ∧ (argCV (s :: sh) ct j nx).map (CV.den e') = v :: vs ∧ ∀ id o, hlook (argHp (s :: sh) ct j nx) id = some o → nx ≤ id ∧ id < rowNx (s :: sh) nx ∧ o.holds e' w id ∧ ∀ b, ¬ o.owns e' id b := by
        intro c hden g1 g2 g3
        obtain ⟨e', k1, k2, k3, k4⟩ := ih ct vs (j + 1) nx e hl' hc'
        rw [g1, g2, g3]
        exact ⟨e', k1, k2, by rw [List.map_cons, k3, hden], k4⟩
      cases s with
      | int k => exact flat (.val false (.int k (ct j).int)) (fun _ => (show v = _ from hh).symm) rfl rfl rfl
      | bool => exact flat (.val false (.bool (ct j).bool)) (fun _ => (show v = _ from hh).symm) rfl rfl rfl
      | str => exact flat (.val false (.string (ct j).str)) (fun _ => (show v = _ from hh).symm) rfl rfl rfl
      | fn al => cases hnf
      | sl el =>
        have hh' : RowsAt w (Lt w) (CtHolds w (Lt w) 7) el (ct j).rows v := hh
        obtain ⟨a, cap, hv, h1, h2, h0, h3⟩ := hh'
        obtain ⟨e', k1, k2, k3, k4⟩ := ih ct vs (j + 1) (nx + 1) (e.setS nx (a, (ct j).rows.length, cap) (Lt w)) hl' hc'
        have hsame : (e.setS nx (a, (ct j).rows.length, cap) (Lt w)).same e' nx := k1 nx (.inl (Nat.lt_succ_self _))
        have hslv : e'.slv nx = v := by rw [hsame.slv, Env.setS_slv, hv]
        have hφ : e'.φ nx = Lt w := by rw [hsame.2.2, Env.setS_φ]
        refine ⟨e', fun id hid => ?_, by simp only [rowNx]; omega, by rw [argCV, List.map_cons, k3]; simp only [CV.den, hslv], fun id o hl => ?_⟩
        · simp only [rowNx] at hid
          exact (Env.setS_same (by omega)).trans (k1 id (by omega))
        · simp only [argHp, hlook] at hl
          simp only [rowNx]
          cases hb : Nat.beq nx id with
          | true =>
            rw [hb] at hl
            simp only [cond_true, Option.some.injEq] at hl
            subst hl
            obtain rfl := Nat.eq_of_beq_eq_true hb
            refine ⟨Nat.le_refl _, by omega, ⟨⟨7, ?_⟩, fun b hb' => ?_⟩, fun _ h => h⟩
            · rw [hφ, hslv]; exact ⟨a, cap, hv, h1, h2, h0, h3⟩
            · rw [hφ] at hb'; exact hb'
          | false =>
            rw [hb] at hl
            have := k4 id o hl
            exact ⟨by omega, this.2⟩
/-- A call that answers a value, out of what it does under names. -/
theorem law_call {P : Program} {f : FuncId} {args : List RV} {hp : Hp} {nx : Nat} {out : Out} {w : World} {e : Env} {vs : List Value} {V : Value} (h : CallOk P f args hp nx out) (hs : Sat e (hlook hp) w) (ha : args.map (RV.den e) = vs) (hV : ∀ e, out.v.den e = V) (hW : out.W = []) :
    Calls P f vs.toArray w fun en w' => en = .returned V ∧ Below w.heap.size w w' := by
  rw [← ha]
  refine (h e w hs).mono fun en w' ⟨e', hen, hp'⟩ => ⟨by rw [hen, hV], hp'.os, hp'.tape, hp'.output, hp'.size, fun k hk => hp'.fr k hk fun id hid => by rw [hW] at hid; cases hid⟩
/-! ### All arguments of a law at once -/
structure CellsOk (w : World) (sh : List Sh) (vs : List Value) (ct : Nat → Ct) : Prop where
  len : vs.length = sh.length
  at' : ∀ (i : Nat) s, sh[i]? = some s → ∃ u, vs[i]? = some u ∧ CtHolds w (Lt w) 8 s (ct i) u ∧ CtWf 8 s (ct i)
theorem CellsOk.wf {w : World} {sh : List Sh} {vs : List Value} {ct : Nat → Ct} (h : CellsOk w sh vs ct) (i : Nat) (s : Sh) (hs : sh[i]? = some s) : CtWf 8 s (ct i) := by
  obtain ⟨u, _, _, h3⟩ := h.at' i s hs
  exact h3
def ctApp (n : Nat) (a b : Nat → Ct) (j : Nat) : Ct := if j < n then a j else b (j - n)
theorem CellsOk.nil (w : World) : CellsOk w [] [] (fun _ => .i 0) := ⟨rfl, fun i s h => by simp at h⟩
theorem CellsOk.append {w : World} {sh sh' : List Sh} {vs vs' : List Value} {ct ct' : Nat → Ct} (h : CellsOk w sh vs ct) (k : CellsOk w sh' vs' ct') : CellsOk w (sh ++ sh') (vs ++ vs') (ctApp sh.length ct ct') := by
  refine ⟨by simp [h.len, k.len], fun i s hs => ?_⟩
  unfold ctApp
  by_cases hi : i < sh.length
  · rw [List.getElem?_append_left hi] at hs
    rw [if_pos hi, List.getElem?_append_left (by rw [h.len]; exact hi)]
    exact h.at' i s hs
  · rw [List.getElem?_append_right (by omega)] at hs
    rw [if_neg hi, List.getElem?_append_right (by rw [h.len]; omega), h.len]
    exact k.at' _ s hs
theorem open_cells {H : Type} {enc : TypeId × Value → H} {P : Program} {w : World} {base : Nat} {spare : Nat → Bool} {held : Bool} {t : TypeId} {v : Value} {x : DataW H} {p : List MemPlace} (n : Nat) (sh : List Sh) (hl : (leafT P n t).bind (fun ts => ts.mapM (shLeaf P n 8)) = some sh) (h : DataW.Trod enc P w base spare held t v x p) :
    ∃ ct : Nat → Ct, CellsOk w sh v.cells.toList ct := by
  obtain ⟨ct, h1, h2⟩ := open_any (r := .any) (b0 := 0) n hl h
  exact ⟨ct, h1, h2⟩
def mkArgs : List (Option Nat) → List CV → List RV
  | [], _ => []
  | some n :: ks, l => .sv (.agg (l.take n)) :: mkArgs ks (l.drop n)
  | none :: ks, c :: l => .sv (.one c) :: mkArgs ks l
  | none :: ks, [] => RV.und :: mkArgs ks []
def mkVals : List (Option Nat) → List Value → List Value
  | [], _ => []
  | some n :: ks, l => .agg (l.take n).toArray :: mkVals ks (l.drop n)
  | none :: ks, c :: l => c :: mkVals ks l
  | none :: ks, [] => undef :: mkVals ks []
theorem mkArgs_den {e : Env} : ∀ (ks : List (Option Nat)) (l : List CV), (mkArgs ks l).map (RV.den e) = mkVals ks (l.map (CV.den e)) := by
  intro ks
  induction ks with
  | nil => intro l; rfl
  | cons k ks ih =>
    intro l
    cases k with
    | some n => simp [mkArgs, mkVals, ih, RV.den, SV.den, List.map_take, List.map_drop]
    | none => cases l with
      | nil => simp only [mkArgs, mkVals, List.map_nil, List.map_cons]; rw [ih]; rfl
      | cons c l => simp [mkArgs, mkVals, ih, RV.den, SV.den]
theorem mkVals_agg {cs : Array Value} {n : Nat} {ks : List (Option Nat)} {r : List Value} (h : (Value.agg cs).cells.toList.length = n) : mkVals (some n :: ks) ((Value.agg cs).cells.toList ++ r) = .agg cs :: mkVals ks r := by
  subst h
  simp [mkVals, Value.cells]
theorem mkVals_one {v : Value} {ks : List (Option Nat)} {r : List Value} (h : v.cells.toList = [v]) : mkVals (none :: ks) (v.cells.toList ++ r) = v :: mkVals ks r := by
  rw [h]; rfl
theorem argHp_grid : ∀ {sh : List Sh} {ct : Nat → Ct} {j nx id : Nat} {o : HO}, hlook (argHp sh ct j nx) id = some o → ∃ e l, o = .grid e l := by
  intro sh
  induction sh with
  | nil => intro ct j nx id o h; simp [argHp, hlook] at h
  | cons s sh ih =>
    intro ct j nx id o h
    cases s with
    | sl el =>
      simp only [argHp, hlook] at h
      cases hb : Nat.beq nx id with
      | true => rw [hb] at h; cases h; exact ⟨_, _, rfl⟩
      | false => rw [hb] at h; exact ih h
    | _ => exact ih h
theorem law_go {P : Program} {f : FuncId} {sh : List Sh} {vs args : List Value} {ct : Nat → Ct} {w : World} {nx : Nat} {out : Out} {V : Value} (ks : List (Option Nat)) (K : CellsOk w sh vs ct) (hv : mkVals ks vs = args)
    (h : CallOk P f (mkArgs ks (argCV sh ct 0 0)) (argHp sh ct 0 0) nx out) (hV : ∀ e, out.v.den e = V) (hW : out.W = []) : Calls P f args.toArray w fun en w' => en = .returned V ∧ Below w.heap.size w w' := by
  obtain ⟨e, _, _, h3, h4⟩ := arg_ok sh ct vs 0 0 env0 K.len (fun i s hs => by
    obtain ⟨u, h1, h2, h3⟩ := K.at' i s hs
    exact ⟨u, h1, by rw [Nat.zero_add]; exact h2, h3.noFn⟩)
  refine law_call (e := e) h ⟨fun id o ho => (h4 id o ho).2.2.1, fun id o ho id' o' ho' hne b hb => absurd hb ((h4 id o ho).2.2.2 b)⟩ ?_ hV hW
  rw [mkArgs_den, h3, hv]
end Go.Proofs.Ytonlllijdbjkaaa
