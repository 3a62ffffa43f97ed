/- A symbolic way through the code of a call: slices of an open length: their rows are read and written. No condition. -/
import Derived.Test.YthgneojhhocflaaEng3
import Derived.Laws.MakeOwn
import Derived.Laws.Slices
import Derived.Lib.ConvBytes
import Derived.Laws.BytesString
set_option linter.unusedVariables false
namespace Go.Proofs.Ythgneojhhocflaa
open Go.RowKit

theorem HO.rowsAt {e : Env} {w : World} {id : Nat} {o : HO} {p : List Sh × List (List Ct)} (h : o.holds e w id) (hl : o.ls = some p) : ∃ d, RowsAt w (fun b => o.foot e id b) (CtHolds w (e.φ id) d) p.1 p.2 (e.slv id) := by
  cases o with
  | cells _ _ => cases hl
  | grid sh l =>
    cases hl
    obtain ⟨⟨d, hr⟩, _⟩ := h
    exact ⟨d, hr⟩
  | row sh t l =>
    cases hl
    obtain ⟨⟨d, xs, ho, hc⟩, _⟩ := h
    refine ⟨d, ?_⟩
    change RowsAt w _ _ sh l _
    rcases ho.2 with ⟨hv, hn⟩ | ⟨g, cap, cur, hv, _, hg, hnc, hcm, _⟩
    · exact ⟨none, 0, by rw [hv, hn], by omega, by omega, fun _ => rfl, fun i hi => by omega⟩
    · refine ⟨_, cap, hv, hnc, by simp only [maxLen] at hcm; omega, (fun h => by cases h), fun i hi => ⟨g, 0, rfl, .inl (by rw [hv]; rfl), fun j s hs => ?_⟩⟩
      obtain ⟨u, hu, hh⟩ := hc i hi j s hs
      refine ⟨u, ?_, hh⟩
      rw [hv] at ho
      have hlt : i * sh.length + j < l.length * sh.length := by
        obtain ⟨hlt', _⟩ := List.getElem?_eq_some_iff.1 hu
        have h1 := ho.1
        omega
      rw [Nat.zero_add, ho.cellAt _ hlt]; exact hu
  | elem _ _ _ => cases hl
  | gone => cases hl
def Env.setS (e : Env) (id : Nat) (s : Option Addr × Nat × Nat) (f : Nat → Prop) : Env := ⟨e.ρ, fun i => if i = id then s else e.σ i, fun i => if i = id then f else e.φ i⟩
theorem Env.setS_same {e : Env} {id i : Nat} {s : Option Addr × Nat × Nat} {f : Nat → Prop} (h : i ≠ id) : e.same (e.setS id s f) i := ⟨rfl, by simp [Env.setS, h], by simp [Env.setS, h]⟩
theorem Env.setS_σ {e : Env} {id : Nat} {s : Option Addr × Nat × Nat} {f : Nat → Prop} : (e.setS id s f).σ id = s := by simp [Env.setS]
theorem Env.setS_φ {e : Env} {id : Nat} {s : Option Addr × Nat × Nat} {f : Nat → Prop} : (e.setS id s f).φ id = f := by simp [Env.setS]
theorem Env.setS_slv {e : Env} {id : Nat} {s : Option Addr × Nat × Nat} {f : Nat → Prop} : (e.setS id s f).slv id = .slice s.1 s.2.1 s.2.2 := by simp [Env.setS, Env.slv]
/-- Names that stand for what is only looked at. -/
theorem PostOp.view {e e' : Env} {h : Nat → Option HO} {nx nx' : Nat} {v : RV} {up : Hp} {w : World} (ha : ∀ id, id < nx ∨ nx' ≤ id → e.same e' id)
    (hu : ∀ id o, hlook up id = some o → o.holds e' w id ∧ (∀ b, ¬ o.owns e' id b) ∧ ∀ b, o.foot e' id b → ∃ id0 o0, h id0 = some o0 ∧ o0.foot e id0 b ∧ ¬ o0.owns e id0 b) : PostOp e e' h nx ⟨v, up, nx', []⟩ w w :=
  ⟨ha, rfl, rfl, rfl, Nat.le_refl _, fun _ _ _ => rfl, ⟨fun id o ho => (hu id o ho).1, fun id o ho id' o' ho' hne b hb => absurd hb ((hu id o ho).2.1 b)⟩, fun id o b ho hb => absurd hb ((hu id o ho).2.1 b),
    fun id o b ho hb => .inr (.inr ((hu id o ho).2.2 b hb))⟩
/-- The address of a row, by an open number. -/
def opIndexE (P : Program) (get : Operand → RV) (hp : Hp) (nx : Nat) (t : TypeId) (x i : Operand) : Option (Bool × Out) :=
  match get x, intOfRV (get i), P.underlying t with
  | .sv (.one (.ext id)), some j, some (.slice e) => (match (hlook hp id).bind HO.ls, sizeP P e with
    | some p, some s => bif Nat.beq s p.1.length then some (decide (0 ≤ j ∧ j < p.2.length), ⟨.sv (.one (.eptr nx 0)), [(nx, .elem id j.toNat p.1.length)], nx + 1, []⟩) else none
    | _, _ => none)
  | _, _, _ => none
theorem opIndexE_ok {P : Program} {o : Oper} {get : Operand → RV} {hp : Hp} {nx : Nat} {out : Out} {t : TypeId} {x i : Operand} {b : Bool} (hwf : WfOp get o hp nx) (ho : o.op = .indexAddr t x i) (h : opIndexE P get hp nx t x i = some (b, out)) (hb : b = true) : OpOk P o get hp nx out := by
  unfold opIndexE at h
  split at h
  · rename_i id j el hg hj hu
    split at h
    · rename_i p s hl hs
      cases hbq : Nat.beq s p.1.length with
      | false => rw [hbq] at h; cases h
      | true =>
        rw [hbq] at h
        simp only [cond_true, Option.some.injEq, Prod.mk.injEq] at h
        obtain ⟨rfl, rfl⟩ := h
        obtain rfl := Nat.eq_of_beq_eq_true hbq
        simp only [decide_eq_true_eq] at hb
        obtain ⟨hj0, hjn⟩ := hb
        intro e a w hx hsat K Q hK
        have hx1 := hx x (by rw [ho]; simp [Op.operands])
        have hx2 := hx i (by rw [ho]; simp [Op.operands])
        obtain ⟨k, hk⟩ := intOfRV_spec hj e
        rw [hg] at hx1
        rw [hk] at hx2
        obtain ⟨ob, hob, hls⟩ := Option.bind_eq_some_iff.1 hl
        obtain ⟨d, a', cap, hv, h1, h2, h0, hc⟩ := HO.rowsAt (hsat.holds _ _ hob) hls
        obtain ⟨bk, off, ha, _, _⟩ := hc j.toNat (by omega)
        subst ha
        have hid := (hwf.hp id _ hob).1
        have hx1' : a.eval x = .slice (some ⟨bk, off, none⟩) p.2.length cap := by rw [hx1]; exact hv
        have hσ : e.σ id = (some ⟨bk, off, none⟩, p.2.length, cap) := by
          simp only [Env.slv, Value.slice.injEq] at hv
          obtain ⟨g1, g2, g3⟩ := hv
          ext1
          · exact g1
          · ext1
            · exact g2
            · exact g3
        refine wp_value (w' := w) (v := .pointer (some ⟨bk, off + j.toNat * p.1.length, none⟩)) ?_ ?_
        · simp only [execOp, ho, hx1', hx2, Instr.indexAt, asIntOf, Sem.run_bind, run_underlying hu, Result.andThen_ok, Sem.run_pure]
          simp only [hj0, hjn, and_self, if_true, Sem.run_bind, sizeP_run hs, Result.andThen_ok, Sem.run_pure, addr_add]
        · have := hK (e.setS nx (some ⟨bk, off + j.toNat * p.1.length, none⟩, 0, 0) fun _ => False) w (PostOp.view (fun id' h => Env.setS_same (by omega)) fun id' o' h => ?_)
          · simpa [RV.den, SV.den, CV.den, Env.blk, Env.off, Env.setS_σ] using this
          · obtain ⟨rfl, rfl⟩ := hlook_one h
            have hne : id ≠ id' := by omega
            refine ⟨⟨⟨⟨bk, off, none⟩, ?_, rfl, ?_⟩, ?_⟩, fun _ h => h, fun _ h => False.elim h⟩
            · rw [(Env.setS_same hne).2.1, hσ]
            · rw [Env.setS_σ]
            · rw [(Env.setS_same hne).2.1, hσ]; simp only; omega
    · cases h
  · cases h

theorem rowCV_ok {w : World} {φ0 : Nat → Prop} {d : Nat} {l : List (List Ct)} {i blk : Nat} (hφ : ∀ b, φ0 b → b < w.heap.size) : ∀ (sh : List Sh) (j nx o0 : Nat) (e : Env), (∀ (q : Nat) s, sh[q]? = some s → ∃ u, w.cell? ⟨blk, o0 + q, none⟩ = some u ∧ CtHolds w φ0 d s (rd l i (j + q)) u) →
    ∃ e', (∀ id, id < nx ∨ rowNx sh nx ≤ id → e.same e' id) ∧ nx ≤ rowNx sh nx ∧ (∀ (q : Nat) c, (rowCV l i sh j nx)[q]? = some c → w.cell? ⟨blk, o0 + q, none⟩ = some (c.den e')) ∧
      ∀ id o, hlook (rowHp l i sh j nx) id = some o → nx ≤ id ∧ id < rowNx sh nx ∧ o.holds e' w id ∧ (∀ b, ¬ o.owns e' id b) ∧ ∀ b, o.foot e' id b → φ0 b := by
  intro sh
  induction sh with
  | nil => intro j nx o0 e _; exact ⟨e, fun _ _ => .refl _ _, Nat.le_refl _, fun q c h => by simp [rowCV] at h, fun id o h => by simp [rowHp, hlook] at h⟩
  | cons s sh ih =>
    intro j nx o0 e hc
    have hc' : ∀ (q : Nat) s, sh[q]? = some s → ∃ u, w.cell? ⟨blk, o0 + 1 + q, none⟩ = some u ∧ CtHolds w φ0 d s (rd l i (j + 1 + q)) u := fun q s' hs => by
      have := hc (q + 1) s' (by simpa using hs)
      rw [show o0 + 1 + q = o0 + (q + 1) by omega, show j + 1 + q = j + (q + 1) by omega]
      exact this
    obtain ⟨u, hu, hh⟩ := hc 0 s rfl
    rw [Nat.add_zero] at hu hh
    have flat : ∀ c : CV, c.ids = [] → (∀ e', c.den e' = u) → rowCV l i (s :: sh) j nx = c :: rowCV l i sh (j + 1) nx → rowHp l i (s :: sh) j nx = rowHp l i sh (j + 1) nx → rowNx (s :: sh) nx = rowNx sh nx →
        ∃ e', (∀ id, id < nx ∨ rowNx (s :: sh) nx ≤ id → e.same e' id) ∧ nx ≤ rowNx (s :: sh) nx ∧ (∀ (q : Nat) c, (rowCV l i (s :: sh) j nx)[q]? = some c → w.cell? ⟨blk, o0 + q, none⟩ = some (c.den e')) ∧
      ∀ id o, hlook (rowHp l i (s :: sh) j nx) id = some o → nx ≤ id ∧ id < rowNx (s :: sh) nx ∧ o.holds e' w id ∧ (∀ b, ¬ o.owns e' id b) ∧ ∀ b, o.foot e' id b → φ0 b := by
      intro c _ hden g1 g2 g3
      obtain ⟨e', k1, k2, k3, k4⟩ := ih (j + 1) nx (o0 + 1) e hc'
      rw [g1, g2, g3]
      refine ⟨e', k1, k2, fun q c' hq => ?_, k4⟩
      cases q with
      | zero => simp only [List.getElem?_cons_zero, Option.some.injEq] at hq; subst hq; rw [hden, Nat.add_zero]; exact hu
      | succ q => rw [show o0 + (q + 1) = o0 + 1 + q by omega]; exact k3 q c' (by simpa using hq)
    cases s with
    | int k =>
      have : u = .int k (rd l i j).int := by cases d <;> exact hh
      exact flat (.val false (.int k (rd l i j).int)) rfl (fun _ => this.symm) rfl rfl rfl
    | bool =>
      have : u = .bool (rd l i j).bool := by cases d <;> exact hh
      exact flat (.val false (.bool (rd l i j).bool)) rfl (fun _ => this.symm) rfl rfl rfl
    | str =>
      have : u = .string (rd l i j).str := by cases d <;> exact hh
      exact flat (.val false (.string (rd l i j).str)) rfl (fun _ => this.symm) rfl rfl rfl
    | sl el =>
      cases d with
      | zero => exact False.elim hh
      | succ d' =>
        have hh' : RowsAt w φ0 (CtHolds w φ0 d') el (rd l i j).rows u := hh
        obtain ⟨a, cap, hv, h1, h2, h0, h3⟩ := hh'
        obtain ⟨e', k1, k2, k3, k4⟩ := ih (j + 1) (nx + 1) (o0 + 1) (e.setS nx (a, (rd l i j).rows.length, cap) φ0) hc'
        have hsame : (e.setS nx (a, (rd l i j).rows.length, cap) φ0).same e' nx := k1 nx (.inl (Nat.lt_succ_self _))
        have hslv : e'.slv nx = u := by rw [hsame.slv, Env.setS_slv, hv]
        have hφ' : e'.φ nx = φ0 := by rw [hsame.2.2, Env.setS_φ]
        refine ⟨e', fun id hid => ?_, by simp only [rowNx]; omega, fun q c' hq => ?_, fun id o hl => ?_⟩
        · simp only [rowNx] at hid
          exact (Env.setS_same (by omega)).trans (k1 id (by omega))
        · cases q with
          | zero =>
            simp only [rowCV, List.getElem?_cons_zero, Option.some.injEq] at hq
            subst hq
            rw [Nat.add_zero, hu]
            simp only [CV.den, hslv]
          | succ q => rw [show o0 + (q + 1) = o0 + 1 + q by omega]; exact k3 q c' (by simpa [rowCV] using hq)
        · simp only [rowHp, hlook] at hl
          simp only [rowNx]
          cases hb : Nat.beq nx id with
          | true =>
            rw [hb] at hl
            simp only [cond_true, Option.some.injEq] at hl
            subst hl
            obtain rfl := Nat.eq_of_beq_eq_true hb
            refine ⟨Nat.le_refl _, by omega, ⟨⟨d', ?_⟩, fun b hb' => ?_⟩, fun _ h => h, fun b hb' => ?_⟩
            · rw [hφ', hslv]; exact ⟨a, cap, hv, h1, h2, h0, h3⟩
            · rw [hφ'] at hb'; exact hφ b hb'
            · have hb'' : e'.φ nx b := hb'
              rw [hφ'] at hb''; exact hb''
          | false =>
            rw [hb] at hl
            have := k4 id o hl
            exact ⟨by omega, this.2⟩
theorem rowCV_length (l : List (List Ct)) (i : Nat) : ∀ (sh : List Sh) (j nx : Nat), (rowCV l i sh j nx).length = sh.length := by
  intro sh
  induction sh with
  | nil => intro j nx; rfl
  | cons s sh ih => intro j nx; cases s <;> simp [rowCV, ih]
/-- Out of a row. -/
def opLoadE (P : Program) (get : Operand → RV) (hp : Hp) (nx : Nat) (t : TypeId) (x : Operand) : Option Out :=
  match get x with
  | .sv (.one (.eptr q off)) => (match hlook hp q with
    | some (.elem id i w) => (match (hlook hp id).bind HO.ls, isAggP P t with
      | some p, some true => (match sizeP P t with
        | some n => bif Nat.beq w p.1.length && Nat.ble (off + n) p.1.length then some ⟨.sv (.agg (rowCV p.2 i ((p.1.drop off).take n) off nx)), rowHp p.2 i ((p.1.drop off).take n) off nx, rowNx ((p.1.drop off).take n) nx, []⟩ else none
        | none => none)
      | some p, some false => bif Nat.beq w p.1.length then (match rowCV p.2 i ((p.1.drop off).take 1) off nx with
        | [c] => some ⟨.sv (.one c), rowHp p.2 i ((p.1.drop off).take 1) off nx, rowNx ((p.1.drop off).take 1) nx, []⟩
        | _ => none) else none
      | _, _ => none)
    | _ => none)
  | _ => none
/-- What a pointer into a row leads to. -/
theorem elem_at {e : Env} {w : World} {hp : Hp} {q id i wd off : Nat} {p : List Sh × List (List Ct)} (hsat : Sat e (hlook hp) w) (hq : hlook hp q = some (.elem id i wd)) (hl : (hlook hp id).bind HO.ls = some p) (hw : wd = p.1.length) :
    ∃ ob d bk o1, hlook hp id = some ob ∧ ob.ls = some p ∧ i < p.2.length ∧ (e.σ q).1 = some ⟨bk, o1 + i * p.1.length, none⟩ ∧ (e.σ id).1 = some ⟨bk, o1, none⟩ ∧ ob.foot e id bk ∧ (∀ b, e.φ id b → b < w.heap.size) ∧ (∀ b, e.φ id b → ob.foot e id b ∧ ¬ ob.owns e id b) ∧
      ∀ (j : Nat) s, p.1[j]? = some s → ∃ u, w.cell? ⟨bk, o1 + i * p.1.length + j, none⟩ = some u ∧ CtHolds w (e.φ id) d s (rd p.2 i j) u := by
  obtain ⟨ob, hob, hls⟩ := Option.bind_eq_some_iff.1 hl
  obtain ⟨⟨a, ha, hsp, hqa⟩, hi⟩ := hsat.holds _ _ hq
  have hh := hsat.holds _ _ hob
  obtain ⟨d, a', cap, hv, h1, h2, h0, hc⟩ := HO.rowsAt hh hls
  simp only [Env.slv, Value.slice.injEq] at hv
  obtain ⟨g1, g2, g3⟩ := hv
  have hi' : i < p.2.length := by rw [← g2]; exact hi
  obtain ⟨bk, o1, ha', hf, hcell⟩ := hc i hi'
  rw [g1, ha'] at ha
  cases ha
  have hφ : (∀ b, e.φ id b → b < w.heap.size) ∧ (∀ b, e.φ id b → ob.foot e id b ∧ ¬ ob.owns e id b) := by
    cases ob with
    | cells _ _ => cases hls
    | grid sh l => exact ⟨hh.2, fun b hb => ⟨hb, fun h => h⟩⟩
    | row sh t l => exact ⟨fun b hb => (hh.2 b hb).1, fun b hb => ⟨.inr hb, (hh.2 b hb).2⟩⟩
    | elem _ _ _ => cases hls
    | gone => cases hls
  exact ⟨ob, d, bk, o1, hob, hls, hi', by rw [hqa, hw], by rw [g1, ha'], hf, hφ.1, hφ.2, hcell⟩
theorem opLoadE_ok {P : Program} {o : Oper} {get : Operand → RV} {hp : Hp} {nx : Nat} {out : Out} {t : TypeId} {x : Operand} (ho : o.op = .load t x) (h : opLoadE P get hp nx t x = some out) : OpOk P o get hp nx out := by
  unfold opLoadE at h
  split at h
  · rename_i q off hg
    split at h
    · rename_i id i wd hq
      have main : ∀ (p : List Sh × List (List Ct)) (n : Nat), (hlook hp id).bind HO.ls = some p → wd = p.1.length → ∀ (e : Env) (a : Act) (w : World), (∀ x ∈ o.op.operands, a.eval x = (get x).den e) → Sat e (hlook hp) w →
          ∃ bk o2 e', a.eval x = .pointer (some ⟨bk, o2, none⟩) ∧ (∀ (j : Nat) c, (rowCV p.2 i ((p.1.drop off).take n) off nx)[j]? = some c → w.cell? ⟨bk, o2 + j, none⟩ = some (c.den e')) ∧
            ∀ v, PostOp e e' (hlook hp) nx ⟨v, rowHp p.2 i ((p.1.drop off).take n) off nx, rowNx ((p.1.drop off).take n) nx, []⟩ w w := by
        intro p n hl hw e a w hx hsat
        obtain ⟨ob, d, bk, o1, hob, hls, hi, hσ, hσ', hf, hφ1, hφ2, hcell⟩ := elem_at (e := e) (w := w) (off := off) hsat hq hl hw
        have hx1 := hx x (by rw [ho]; simp [Op.operands])
        rw [hg] at hx1
        obtain ⟨e', k1, k2, k3, k4⟩ := rowCV_ok (l := p.2) (i := i) (blk := bk) (d := d) hφ1 ((p.1.drop off).take n) off nx (o1 + i * p.1.length + off) e (fun j s hs => by
          rw [List.getElem?_take] at hs
          split at hs
          · rw [List.getElem?_drop] at hs
            have := hcell (off + j) s hs
            rw [show o1 + i * p.1.length + off + j = o1 + i * p.1.length + (off + j) by omega]
            exact this
          · cases hs)
        refine ⟨bk, o1 + i * p.1.length + off, e', ?_, k3, fun v => PostOp.view k1 fun id' o' h' => ?_⟩
        · rw [hx1]; simp [RV.den, SV.den, CV.den, Env.blk, Env.off, hσ]
        · obtain ⟨_, _, m1, m2, m3⟩ := k4 id' o' h'
          exact ⟨m1, m2, fun b hb => ⟨id, ob, hob, (hφ2 b (m3 b hb)).1, (hφ2 b (m3 b hb)).2⟩⟩
      split at h
      · rename_i p hl ha
        split at h
        · rename_i n hn
          cases hb : (Nat.beq wd p.1.length && Nat.ble (off + n) p.1.length) with
          | false => rw [hb] at h; cases h
          | true =>
            rw [hb] at h
            cases h
            simp only [Bool.and_eq_true] at hb
            have hw := Nat.eq_of_beq_eq_true hb.1
            have hle := Nat.le_of_ble_eq_true hb.2
            intro e a w hx hsat K Q hK
            obtain ⟨bk, o2, e', m1, m2, m3⟩ := main p n hl hw e a w hx hsat
            have hlen : (rowCV p.2 i ((p.1.drop off).take n) off nx).length = n := by rw [rowCV_length]; simp; omega
            refine wp_value (w' := w) (v := .agg ((rowCV p.2 i ((p.1.drop off).take n) off nx).map (CV.den e')).toArray) ?_ (hK e' w (m3 _))
            have := run_loadCells_list (P := P) w ⟨bk, o2, none⟩ ((rowCV p.2 i ((p.1.drop off).take n) off nx).map (CV.den e')) (fun j v hj => by
              rw [addr_add]
              simp only [List.getElem?_map, Option.map_eq_some_iff] at hj
              obtain ⟨c, hc', rfl⟩ := hj
              exact m2 j c hc')
            rw [List.length_map, hlen] at this
            simp only [execOp, ho, Instr.loadAt, m1, Instr.sureAddr, Sem.run_bind, Sem.run_pure, Result.andThen_ok, loadVar, isAgg_run ha, if_true, sizeP_run hn, this]
        · cases h
      · rename_i p hl ha
        cases hb : Nat.beq wd p.1.length with
        | false => rw [hb] at h; cases h
        | true =>
          rw [hb] at h
          simp only [cond_true] at h
          split at h
          · rename_i c hc
            cases h
            intro e a w hx hsat K Q hK
            obtain ⟨bk, o2, e', m1, m2, m3⟩ := main p 1 hl (Nat.eq_of_beq_eq_true hb) e a w hx hsat
            refine wp_value (w' := w) (v := c.den e') ?_ (hK e' w (m3 _))
            have hc0 := m2 0 c (by rw [hc]; rfl)
            rw [Nat.add_zero] at hc0
            simp only [execOp, ho, Instr.loadAt, m1, Instr.sureAddr, Sem.run_bind, Sem.run_pure, Result.andThen_ok, loadVar, isAgg_run ha, Bool.false_eq_true, if_false, run_load, hc0]
          · cases h
      · cases h
    · cases h
  · cases h
end Go.Proofs.Ythgneojhhocflaa
