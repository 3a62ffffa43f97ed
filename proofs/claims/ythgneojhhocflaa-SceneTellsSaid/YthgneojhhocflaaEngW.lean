/- A symbolic way through the code of a call: a slice's part, new slices, bytes and texts. No condition. -/
import Derived.Test.YthgneojhhocflaaEngV
import Derived.Laws.DeepStrings4
import Derived.Laws.Concat
set_option linter.unusedVariables false
namespace Go.Proofs.Ythgneojhhocflaa
open Go.RowKit

def loOf (get : Operand → RV) : Option Operand → Option Int
  | none => some 0
  | some x => intOfRV (get x)
def hiOf (get : Operand → RV) (n : Nat) : Option Operand → Option Int
  | none => some n
  | some x => intOfRV (get x)
def partOf (l : List (List Ct)) (lo hi : Int) : List (List Ct) := (l.drop lo.toNat).take (hi.toNat - lo.toNat)
theorem lo_run {P : Program} {get : Operand → RV} {e : Env} {a : Act} {lo : Option Operand} {l : Int} {h : Nat} {code : BoundsCode} (hl : loOf get lo = some l) (hx : ∀ x, lo = some x → a.eval x = (get x).den e) (h0 : 0 ≤ l) (h1 : l ≤ h) (w : World) :
    (match lo.map a.eval with | some v => Instr.sliceBound v h code | none => pure 0 : Sem Nat).run P w = .ok l.toNat w := by
  cases lo with
  | none => simp only [loOf, Option.some.injEq] at hl; subst hl; rfl
  | some x =>
    obtain ⟨k, hk⟩ := intOfRV_spec hl e
    simp only [Option.map_some, hx x rfl, hk]
    exact run_sliceBound w k l h code h0 h1
theorem hi_run {P : Program} {get : Operand → RV} {e : Env} {a : Act} {hi : Option Operand} {n cap : Nat} {h : Int} {code : BoundsCode} (hl : hiOf get n hi = some h) (hx : ∀ x, hi = some x → a.eval x = (get x).den e) (h0 : 0 ≤ h) (h1 : h ≤ cap) (w : World) :
    (match hi.map a.eval with | some v => Instr.sliceBound v cap code | none => pure n : Sem Nat).run P w = .ok h.toNat w := by
  cases hi with
  | none => simp only [hiOf, Option.some.injEq] at hl; subst hl; rfl
  | some x =>
    obtain ⟨k, hk⟩ := intOfRV_spec hl e
    simp only [Option.map_some, hx x rfl, hk]
    exact run_sliceBound w k h cap code h0 h1
theorem bounds_run {P : Program} {get : Operand → RV} {e : Env} {a : Act} {b : Bool} {lo hi : Option Operand} {n cap : Nat} {l h : Int} (hl : loOf get lo = some l) (hh : hiOf get n hi = some h) (hx : ∀ x, lo = some x ∨ hi = some x → a.eval x = (get x).den e)
    (h0 : 0 ≤ l) (h1 : l ≤ h) (h2 : h ≤ cap) (w : World) : (Instr.sliceBounds b n cap (lo.map a.eval) (hi.map a.eval) none).run P w = .ok (l.toNat, h.toNat, cap) w := by
  have g1 := lo_run (P := P) (h := h.toNat) (code := .sliceB) hl (fun x hx' => hx x (.inl hx')) h0 (by omega) w
  have g2 := hi_run (P := P) (cap := cap) (code := if b then .sliceAcap else .sliceAlen) hh (fun x hx' => hx x (.inr hx')) (by omega) h2 w
  unfold Instr.sliceBounds
  cases hi with
  | none =>
    simp only [Option.map_none, Sem.run_pure, Result.ok.injEq, and_true] at g2
    subst g2
    cases lo with
    | none =>
      simp only [Option.map_none, Sem.run_pure, Result.ok.injEq, and_true] at g1 ⊢
      simp only [Sem.run_bind, Sem.run_pure, Result.andThen_ok, ← g1]
    | some x => simp only [Option.map_none, Option.map_some] at g1 ⊢; simp only [Sem.run_bind, Sem.run_pure, Result.andThen_ok, Option.isSome_none, Bool.false_eq_true, if_false, g1]
  | some y =>
    simp only [Option.map_some] at g2
    cases lo with
    | none =>
      simp only [Option.map_none, Option.map_some, Sem.run_pure, Result.ok.injEq, and_true] at g1 ⊢
      simp only [Sem.run_bind, Sem.run_pure, Result.andThen_ok, g2, ← g1]
    | some x => simp only [Option.map_some] at g1 ⊢; simp only [Sem.run_bind, Sem.run_pure, Result.andThen_ok, Option.isSome_none, Bool.false_eq_true, if_false, g2, g1]
/-- A part of a slice that is read alone, of a text, of a whole array of one's own. -/
def opSliceE (P : Program) (get : Operand → RV) (hp : Hp) (nx : Nat) (t : TypeId) (x : Operand) (lo hi mx : Option Operand) : Option (Bool × Out) :=
  match mx, get x, P.underlying t with
  | none, .sv (.one (.ext id)), some (.slice e) => (match hlook hp id, sizeP P e with
    | some (.grid sh l), some s => (match loOf get lo, hiOf get l.length hi with
      | some a, some b => bif Nat.beq s sh.length && Nat.blt id nx then some (decide (0 ≤ a ∧ a ≤ b ∧ b ≤ l.length), ⟨.sv (.one (.ext nx)), [(nx, .grid sh (partOf l a b))], nx + 1, []⟩) else none
      | _, _ => none)
    | _, _ => none)
  | none, .sv (.one (.val _ (.string s))), some .string => (match loOf get lo, hiOf get s.size hi with
    | some a, some b => some (decide (0 ≤ a ∧ a ≤ b ∧ b ≤ s.size), ⟨.sv (.one (.val false (.string (s.extract a.toNat b.toNat)))), [], nx + 1, []⟩)
    | _, _ => none)
  | none, .sv (.one (.ptr id off)), some (.array n e) => (match lo, hi, sizeP P e with
    | none, none, some s => some (true, ⟨.sv (.one (.sl id off n n)), [], nx, []⟩)
    | _, _, _ => none)
  | _, _, _ => none
theorem rd_part {l : List (List Ct)} {lo hi : Int} {i j : Nat} (h : i < hi.toNat - lo.toNat) : rd (partOf l lo hi) i j = rd l (lo.toNat + i) j := by
  unfold rd partOf
  have : ((l.drop lo.toNat).take (hi.toNat - lo.toNat)).getD i [] = l.getD (lo.toNat + i) [] := by
    simp [List.getD_eq_getElem?_getD, h]
  rw [this]
theorem opSliceE_ok {P : Program} {o : Oper} {get : Operand → RV} {hp : Hp} {nx : Nat} {out : Out} {t : TypeId} {x : Operand} {lo hi mx : Option Operand} {b : Bool} (ho : o.op = .slice t x lo hi mx) (h : opSliceE P get hp nx t x lo hi mx = some (b, out)) (hb : b = true) : OpOk P o get hp nx out := by
  have hmem : ∀ y, lo = some y ∨ hi = some y → y ∈ o.op.operands := by
    intro y hy
    rw [ho]
    rcases hy with rfl | rfl <;> simp [Op.operands]
  have hmx : x ∈ o.op.operands := by rw [ho]; simp [Op.operands]
  unfold opSliceE at h
  split at h
  · rename_i id el hg hu
    split at h
    · rename_i sh l s hl hs
      split at h
      · rename_i la lb h1 h2
        cases hbq : (Nat.beq s sh.length && Nat.blt id nx) with
        | false => rw [hbq] at h; cases h
        | true =>
          rw [hbq] at h
          simp only [cond_true, Option.some.injEq, Prod.mk.injEq] at h
          obtain ⟨rfl, rfl⟩ := h
          simp only [Bool.and_eq_true] at hbq
          obtain rfl := Nat.eq_of_beq_eq_true hbq.1
          have hid : id < nx := Nat.le_of_ble_eq_true hbq.2
          simp only [decide_eq_true_eq] at hb
          obtain ⟨q1, q2, q3⟩ := hb
          intro e a w hx hsat K Q hK
          have hx1 := hx x hmx
          rw [hg] at hx1
          obtain ⟨⟨d, ad, cap, hv, k1, k2, k0, k3⟩, hφ⟩ := hsat.holds _ _ hl
          have hx1' : a.eval x = .slice ad l.length cap := by rw [hx1]; exact hv
          have hbd := bounds_run (P := P) (b := true) (n := l.length) (cap := cap) h1 h2 (fun y hy => hx y (hmem y hy)) q1 q2 (by omega) w
          let ad' : Option Addr := if cap = la.toNat then ad else ad.map (·.add (la.toNat * sh.length))
          refine wp_value (w' := w) (v := .slice ad' (lb.toNat - la.toNat) (cap - la.toNat)) ?_ ?_
          · simp only [execOp, ho, hx1', Option.map_none, Instr.sliceAt, Instr.slice, Sem.run_bind, run_underlying hu, Result.andThen_ok, hbd, sizeP_run hs, Sem.run_pure, ad']
          · have hσ : (e.setS nx (ad', lb.toNat - la.toNat, cap - la.toNat) (e.φ id)).slv nx = .slice ad' (lb.toNat - la.toNat) (cap - la.toNat) := by rw [Env.setS_slv]
            have hlen : (partOf l la lb).length = lb.toNat - la.toNat := by simp [partOf]; omega
            have := hK (e.setS nx (ad', lb.toNat - la.toNat, cap - la.toNat) (e.φ id)) w (PostOp.view (v := .sv (.one (.ext nx))) (up := [(nx, .grid sh (partOf l la lb))]) (nx' := nx + 1) (fun id' h => Env.setS_same (by omega)) fun id' o' h => ?_)
            · simpa [RV.den, SV.den, CV.den, hσ] using this
            · obtain ⟨rfl, rfl⟩ := hlook_one h
              refine ⟨⟨⟨d, ad', cap - la.toNat, by rw [hσ, hlen], by omega, by omega, fun hn => ?_, fun i hi => ?_⟩, fun b hb => hφ b (by rw [Env.setS_φ] at hb; exact hb)⟩, fun _ h => h, fun b hb => ⟨id, _, hl, (by
                have hb' : (e.setS id' (ad', lb.toNat - la.toNat, cap - la.toNat) (e.φ id)).φ id' b := hb
                rw [Env.setS_φ] at hb'; exact hb'), fun h => h⟩⟩
              · have : ad = none := by
                  simp only [ad'] at hn
                  split at hn
                  · exact hn
                  · cases ad with
                    | none => rfl
                    | some _ => cases hn
                have := k0 this
                omega
              · rw [hlen] at hi
                obtain ⟨bk, off, hbk, hf, hcell⟩ := k3 (la.toNat + i) (by omega)
                refine ⟨bk, off + la.toNat * sh.length, ?_, by rw [Env.setS_φ]; exact hf, fun j s hs => ?_⟩
                · simp only [ad']
                  rw [if_neg (by omega), hbk]
                  simp [addr_add]
                · obtain ⟨u, hu', hh⟩ := hcell j s hs
                  refine ⟨u, ?_, ?_⟩
                  · rw [← hu', Nat.add_mul]
                    congr 2
                    omega
                  · rw [rd_part hi, Env.setS_φ]; exact hh
      · cases h
    · cases h
  · rename_i k s hg hu
    split at h
    · rename_i la lb h1 h2
      simp only [Option.some.injEq, Prod.mk.injEq] at h
      obtain ⟨rfl, rfl⟩ := h
      simp only [decide_eq_true_eq] at hb
      obtain ⟨q1, q2, q3⟩ := hb
      intro e a w hx hsat K Q hK
      have hx1 := hx x hmx
      rw [hg] at hx1
      have hx1' : a.eval x = .string s := hx1
      have hbd := bounds_run (P := P) (b := false) (n := s.size) (cap := s.size) h1 h2 (fun y hy => hx y (hmem y hy)) q1 q2 (by omega) w
      refine wp_value (w' := w) (v := .string (s.extract la.toNat lb.toNat)) ?_ (hK e w (PostOp.none e _ nx _ _ w))
      simp only [execOp, ho, hx1', Option.map_none, Instr.sliceAt, Instr.slice, Sem.run_bind, run_underlying hu, Result.andThen_ok, Option.isSome_none, Bool.false_eq_true, if_false, hbd, Sem.run_pure]
    · cases h
  · rename_i id off n el hg hu
    split at h
    · rename_i s hs
      simp only [Option.some.injEq, Prod.mk.injEq] at h
      obtain ⟨rfl, rfl⟩ := h
      intro e a w hx hsat K Q hK
      have hx1 := hx x hmx
      rw [hg] at hx1
      have hx1' : a.eval x = .pointer (some ⟨e.ρ id, off, none⟩) := hx1
      refine wp_value (w' := w) (v := .slice (some ⟨e.ρ id, off, none⟩) n n) ?_ (hK e w (PostOp.none e _ nx _ _ w))
      simp only [execOp, ho, hx1', Option.map_none, Instr.sliceAt, Instr.sureAddr, Instr.sliceBounds, Sem.run_bind, run_underlying hu, Result.andThen_ok, sizeP_run hs, Sem.run_pure, Nat.zero_mul, addr_add, Nat.add_zero, Nat.sub_zero, ite_self]
    · cases h
  · cases h

/-- make. -/
def opMake (P : Program) (get : Operand → RV) (nx : Nat) (t : TypeId) (x y : Operand) : Option (Bool × Out) :=
  match P.underlying t, intOfRV (get x), intOfRV (get y) with
  | some (.slice e), some n, some c => (match shT P 8 e, P.info? e with
    | some sh, some i => (match i.zero with
      | some z => (match ctsOf [] (z.cells.toList.map (.val true)) sh with
        | some r => bif Nat.beq i.size sh.length && Nat.beq z.cells.size sh.length && Nat.blt 0 sh.length then
            some (decide (0 ≤ n ∧ n ≤ c ∧ i.bytes * c ≤ 281474976710656 ∧ c ≤ 9223372036854775807), ⟨.sv (.one (.ext nx)), [(nx, .row sh e (List.replicate n.toNat r))], nx + 1, []⟩) else none
        | none => none)
      | none => none)
    | _, _ => none)
  | _, _, _ => none
theorem rd_replicate {n : Nat} {r : List Ct} {i j : Nat} (h : i < n) : rd (List.replicate n r) i j = r.getD j (.i 0) := by
  unfold rd
  simp [List.getD_eq_getElem?_getD, h]
theorem opMake_ok {P : Program} {o : Oper} {get : Operand → RV} {hp : Hp} {nx : Nat} {out : Out} {t : TypeId} {x y : Operand} {b : Bool} (ho : o.op = .makeSlice t x y) (h : opMake P get nx t x y = some (b, out)) (hb : b = true) : OpOk P o get hp nx out := by
  unfold opMake at h
  split at h
  · rename_i el n c hu hn hc
    split at h
    · rename_i sh i hsh hi
      split at h
      · rename_i z hz
        split at h
        · rename_i r hr
          cases hbq : (Nat.beq i.size sh.length && Nat.beq z.cells.size sh.length && Nat.blt 0 sh.length) with
          | false => rw [hbq] at h; cases h
          | true =>
            rw [hbq] at h
            simp only [cond_true, Option.some.injEq, Prod.mk.injEq] at h
            obtain ⟨rfl, rfl⟩ := h
            simp only [Bool.and_eq_true] at hbq
            obtain ⟨⟨q1, q2⟩, q3⟩ := hbq
            have q1 := Nat.eq_of_beq_eq_true q1
            have q2 := Nat.eq_of_beq_eq_true q2
            have q3 : 0 < sh.length := Nat.le_of_ble_eq_true q3
            simp only [decide_eq_true_eq] at hb
            obtain ⟨p1, p2, p3, p4⟩ := hb
            intro e a w hx hsat K Q hK
            have hx1 := hx x (by rw [ho]; simp [Op.operands])
            have hx2 := hx y (by rw [ho]; simp [Op.operands])
            obtain ⟨kn, hkn⟩ := intOfRV_spec hn e
            obtain ⟨kc, hkc⟩ := intOfRV_spec hc e
            rw [hkn] at hx1
            rw [hkc] at hx2
            have hrun := run_make (P := P) w t el i z hu hi hz kn kc n c p1 p2 p3 p4
            obtain ⟨g1, g2, d, g3⟩ := ctsOf_ok (e := e) (w := w) ⟨fun id o h => by simp [hlook] at h, fun id o h => by simp [hlook] at h⟩ hr
            refine wp_value (w' := w.alloc (.cells (madeCells z.cells (c.toNat * i.size)) el)) (v := .slice (some ⟨w.heap.size, 0, none⟩) n.toNat c.toNat) ?_ ?_
            · simp only [execOp, ho, hx1, hx2, Sem.run_bind, hrun, Result.andThen_ok, Sem.run_pure]
            · have hsame : ∀ id, id < nx ∨ nx + 1 ≤ id → e.same (e.setS nx (some ⟨w.heap.size, 0, none⟩, n.toNat, c.toNat) fun _ => False) id := fun id hid => Env.setS_same (by omega)
              have := hK (e.setS nx (some ⟨w.heap.size, 0, none⟩, n.toNat, c.toNat) fun _ => False) (w.alloc (.cells (madeCells z.cells (c.toNat * i.size)) el)) ⟨hsame, rfl, rfl, rfl, by simp, fun k hk _ => Below.heap_alloc _ _ _ hk, ⟨fun id o ho => ?_, fun id o ho id' o' ho' hne => absurd ((hlook_one ho).1.trans (hlook_one ho').1.symm) hne⟩, fun id o b ho hf => ?_, fun id o b ho hf => ?_⟩
              · simpa [RV.den, SV.den, CV.den, Env.setS_slv] using this
              · obtain ⟨rfl, rfl⟩ := hlook_one ho
                refine ⟨⟨d, (madeCells z.cells (c.toNat * i.size)).toList.take (n.toNat * sh.length), ?_, fun i' hi' j s hs => ?_⟩, fun b hb => by rw [Env.setS_φ] at hb; exact False.elim hb⟩
                · rw [Env.setS_slv, List.length_replicate]
                  have hsz : (madeCells z.cells (c.toNat * i.size)).size = c.toNat * sh.length := by rw [size_madeCells, q1]
                  have hle : n.toNat * sh.length ≤ c.toNat * sh.length := Nat.mul_le_mul_right _ (by omega)
                  refine ⟨?_, .inr ⟨w.heap.size, c.toNat, _, rfl, Nat.zero_le _, heap_alloc_new w _, by omega, by simp only [maxLen]; omega, hsz, rfl⟩⟩
                  have hl' : (madeCells z.cells (c.toNat * i.size)).toList.length = c.toNat * sh.length := by rw [Array.length_toList, hsz]
                  simp only [List.length_take, hl']
                  exact Nat.min_eq_left hle
                · rw [List.length_replicate] at hi'
                  have hj : j < sh.length := by
                    rcases Nat.lt_or_ge j sh.length with h | h
                    · exact h
                    · rw [List.getElem?_eq_none h] at hs; cases hs
                  have h1 : (i' + 1) * sh.length ≤ n.toNat * sh.length := Nat.mul_le_mul_right _ hi'
                  have h2 : n.toNat * sh.length ≤ c.toNat * sh.length := Nat.mul_le_mul_right _ (by omega)
                  rw [Nat.succ_mul] at h1
                  obtain ⟨cv, hcv, hh⟩ := g3 j s hs
                  refine ⟨cv.den e, ?_, ?_⟩
                  · rw [List.getElem?_take, if_pos (by omega), Array.getElem?_toList]
                    have hzj : z.cells[j]? = some (cv.den e) := by
                      rw [List.getElem?_map, Option.map_eq_some_iff] at hcv
                      obtain ⟨v, hv, rfl⟩ := hcv
                      rw [← Array.getElem?_toList, hv]; rfl
                    unfold madeCells
                    rw [Array.getElem?_map, Array.getElem?_range]
                    rw [if_pos (by rw [q1]; omega)]
                    simp only [Option.map_some, Option.some.injEq]
                    rw [q2, Nat.mul_comm i', Nat.mul_add_mod, Nat.mod_eq_of_lt hj]
                    rw [getElem!_pos z.cells j (by omega)]
                    rw [Array.getElem?_eq_getElem (by omega)] at hzj
                    simpa using hzj
                  · rw [rd_replicate hi', Env.setS_φ]
                    exact hh.mono fun b hb => by
                      obtain ⟨id, _, o, ho, _⟩ := hb
                      simp [hlook] at ho
              · obtain ⟨rfl, rfl⟩ := hlook_one ho
                have hf' : ((e.setS id (some ⟨w.heap.size, 0, none⟩, n.toNat, c.toNat) fun _ => False).slv id).ownBlock = some b := hf
                rw [Env.setS_slv] at hf'
                cases hf'
                exact .inl (Nat.le_refl _)
              · obtain ⟨rfl, rfl⟩ := hlook_one ho
                rcases hf with hf | hf
                · rw [Env.setS_slv] at hf
                  cases hf
                  exact .inl (Nat.le_refl _)
                · rw [Env.setS_φ] at hf; exact False.elim hf
        · cases h
      · cases h
    · cases h
  · cases h
/-- A part of a slice of one's own, by known numbers. -/
def knownI (get : Operand → RV) (n : Int) : Option Operand → Option Int
  | none => some n
  | some x => (match get x with
    | .sv (.one (.val true (.int _ k))) => some k
    | _ => none)
def opSliceL (P : Program) (get : Operand → RV) (nx : Nat) (t : TypeId) (x : Operand) (lo hi mx : Option Operand) : Option Out :=
  match mx, get x, P.underlying t with
  | none, .sv (.one (.sl id off len cap)), some (.slice e) => (match knownI get 0 lo, knownI get len hi, sizeP P e with
    | some a, some b, some s => bif decide (0 ≤ a ∧ a ≤ b ∧ b ≤ cap ∧ a < cap) then some (.val nx (.sv (.one (.sl id (off + a.toNat * s) (b.toNat - a.toNat) (cap - a.toNat))))) else none
    | _, _, _ => none)
  | _, _, _ => none
theorem knownI_lo {get : Operand → RV} {lo : Option Operand} {a : Int} (h : knownI get 0 lo = some a) : loOf get lo = some a := by
  cases lo with
  | none => exact h
  | some x =>
    simp only [knownI] at h
    split at h
    · rename_i k n hg
      cases h
      simp only [loOf, intOfRV, hg]
    · cases h
theorem knownI_hi {get : Operand → RV} {hi : Option Operand} {a : Int} {n : Nat} (h : knownI get n hi = some a) : hiOf get n hi = some a := by
  cases hi with
  | none => exact h
  | some x =>
    simp only [knownI] at h
    split at h
    · rename_i k n hg
      cases h
      simp only [hiOf, intOfRV, hg]
    · cases h
theorem opSliceL_ok {P : Program} {o : Oper} {get : Operand → RV} {hp : Hp} {nx : Nat} {out : Out} {t : TypeId} {x : Operand} {lo hi mx : Option Operand} (ho : o.op = .slice t x lo hi mx) (h : opSliceL P get nx t x lo hi mx = some out) : OpOk P o get hp nx out := by
  have hmem : ∀ y, lo = some y ∨ hi = some y → y ∈ o.op.operands := by
    intro y hy
    rw [ho]
    rcases hy with rfl | rfl <;> simp [Op.operands]
  have hmx : x ∈ o.op.operands := by rw [ho]; simp [Op.operands]
  unfold opSliceL at h
  split at h
  · rename_i id off len cap el hg hu
    split at h
    · rename_i a b s h1 h2 hs
      cases hq : decide (0 ≤ a ∧ a ≤ b ∧ b ≤ (cap : Int) ∧ a < (cap : Int)) with
      | false => rw [hq] at h; cases h
      | true =>
        rw [hq] at h
        cases h
        simp only [decide_eq_true_eq] at hq
        obtain ⟨q1, q2, q3, q4⟩ := hq
        refine OpOk.val fun e ac w hx hsat => ?_
        have hx1 := hx x hmx
        rw [hg] at hx1
        have hx1' : ac.eval x = .slice (some ⟨e.ρ id, off, none⟩) len cap := hx1
        have hbd := bounds_run (P := P) (b := true) (n := len) (cap := cap) (knownI_lo h1) (knownI_hi h2) (fun y hy => hx y (hmem y hy)) q1 q2 q3 w
        have hne : ¬ cap = a.toNat := by omega
        simp only [execOp, ho, hx1', Option.map_none, Instr.sliceAt, Instr.slice, Sem.run_bind, run_underlying hu, Result.andThen_ok, hbd, sizeP_run hs, Sem.run_pure, if_neg hne, Option.map_some, addr_add]
        rfl
    · cases h
  · cases h
end Go.Proofs.Ythgneojhhocflaa
