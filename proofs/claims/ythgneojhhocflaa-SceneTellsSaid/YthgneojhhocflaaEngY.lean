/- A symbolic way through the code of a call: shifts by an open count, what is copied into a block of one's own. No condition. -/
import Derived.Test.YthgneojhhocflaaEngX
set_option linter.unusedVariables false
namespace Go.Proofs.Ythgneojhhocflaa
open Go.RowKit

/-- A shift by a count that isn't known. -/
def opShift (o : Oper) (get : Operand → RV) (nx : Nat) : Option (Bool × Out) :=
  match o.op with
  | .binOp .shl _ x y _ => (match get x, get y with
    | .sv (.one (.val _ (.int k a))), .sv (.one (.val false (.int _ b))) => some (decide (0 ≤ b), ⟨.sv (.one (.val false (.int k (k.wrap (a * 2 ^ (min b.toNat k.bits)))))), [], nx + 1, []⟩)
    | _, _ => none)
  | .binOp .shr _ x y _ => (match get x, get y with
    | .sv (.one (.val _ (.int k a))), .sv (.one (.val false (.int _ b))) => some (decide (0 ≤ b), ⟨.sv (.one (.val false (.int k (a.fdiv (2 ^ (min b.toNat k.bits)))))), [], nx + 1, []⟩)
    | _, _ => none)
  | _ => none
theorem opShift_ok {P : Program} {o : Oper} {get : Operand → RV} {hp : Hp} {nx : Nat} {out : Out} {b : Bool} (h : opShift o get nx = some (b, out)) (hb : b = true) : OpOk P o get hp nx out := by
  unfold opShift at h
  split at h
  · rename_i t x y yt ho
    split at h
    · rename_i kn k a k' d h1 h2
      simp only [Option.some.injEq, Prod.mk.injEq] at h
      obtain ⟨rfl, rfl⟩ := h
      simp only [decide_eq_true_eq] at hb
      intro e ac w hx hsat K Q hK
      have hx1 := hx x (by rw [ho]; simp [Op.operands])
      have hx2 := hx y (by rw [ho]; simp [Op.operands])
      rw [h1] at hx1
      rw [h2] at hx2
      have hx1' : ac.eval x = .int k a := hx1
      have hx2' : ac.eval y = .int k' d := hx2
      have hn : ¬ d < 0 := by omega
      refine wp_value (w' := w) (v := .int k (k.wrap (a * 2 ^ (min d.toNat k.bits)))) ?_ (hK e w (PostOp.none e _ nx _ _ w))
      simp only [execOp, ho, hx1', hx2', Sem.run_bind]
      simp [eqGuard, binOp, Op.shift, hn]
    · cases h
  · rename_i t x y yt ho
    split at h
    · rename_i kn k a k' d h1 h2
      simp only [Option.some.injEq, Prod.mk.injEq] at h
      obtain ⟨rfl, rfl⟩ := h
      simp only [decide_eq_true_eq] at hb
      intro e ac w hx hsat K Q hK
      have hx1 := hx x (by rw [ho]; simp [Op.operands])
      have hx2 := hx y (by rw [ho]; simp [Op.operands])
      rw [h1] at hx1
      rw [h2] at hx2
      have hx1' : ac.eval x = .int k a := hx1
      have hx2' : ac.eval y = .int k' d := hx2
      have hn : ¬ d < 0 := by omega
      refine wp_value (w' := w) (v := .int k (a.fdiv (2 ^ (min d.toNat k.bits)))) ?_ (hK e w (PostOp.none e _ nx _ _ w))
      simp only [execOp, ho, hx1', hx2', Sem.run_bind]
      simp [eqGuard, binOp, Op.shift, hn]
    · cases h
  · cases h

/-- Cells of numbers, with what is copied over them. -/
def copyCV (k : IntKind) (l : List (List Ct)) : List CV → Nat → Option (List CV)
  | [], _ => some []
  | .val _ (.int k' n) :: r, j => if k = k' then (match copyCV k l r (j + 1) with
    | some xs => some (.val false (.int k (bif Nat.blt j l.length then (rd l j 0).int else n)) :: xs)
    | none => none) else none
  | _, _ => none
theorem copyCV_spec {k : IntKind} {l : List (List Ct)} {e : Env} : ∀ {cs xs : List CV} {j : Nat}, copyCV k l cs j = some xs → xs.length = cs.length ∧
    ∀ i, i < cs.length → (xs.map (CV.den e))[i]? = if j + i < l.length then some (.int k (rd l (j + i) 0).int) else (cs.map (CV.den e))[i]? := by
  intro cs
  induction cs with
  | nil => intro xs j h; cases h; exact ⟨rfl, fun i hi => by simp at hi⟩
  | cons c r ih =>
    intro xs j h
    cases c with
    | val kn v =>
      cases v with
      | int k' n =>
        simp only [copyCV] at h
        split at h
        · rename_i hk
          subst hk
          split at h
          · rename_i ys hys
            cases h
            obtain ⟨h1, h2⟩ := ih hys
            refine ⟨by simp [h1], fun i hi => ?_⟩
            cases i with
            | zero =>
              simp only [List.map_cons, List.getElem?_cons_zero, Nat.add_zero, CV.den]
              by_cases hj : j < l.length
              · rw [if_pos hj, show Nat.blt j l.length = true from Nat.ble_eq_true_of_le hj]; rfl
              · rw [if_neg hj, show Nat.blt j l.length = false from by cases hq : Nat.blt j l.length with | false => rfl | true => exact absurd (Nat.le_of_ble_eq_true hq) hj]; rfl
            | succ i =>
              have := h2 i (by simp at hi; omega)
              simp only [List.map_cons, List.getElem?_cons_succ]
              rw [this, show j + 1 + i = j + (i + 1) by omega]
          · cases h
        · cases h
      | _ => simp [copyCV] at h
    | _ => simp [copyCV] at h
theorem lay_eq {A : Type} {cs news xs : List A} {off len : Nat} (hx : xs.length = len) (hb : off + len ≤ cs.length) (h : ∀ i, i < len → xs[i]? = if i < news.length then news[i]? else cs[off + i]?) :
    cs.take off ++ news.take len ++ cs.drop (off + (news.take len).length) = cs.take off ++ xs ++ cs.drop (off + len) := by
  rw [List.append_assoc, List.append_assoc]
  congr 1
  apply List.ext_getElem?
  intro i
  have hm : (news.take len).length = min len news.length := by simp
  by_cases h1 : i < len
  · rw [List.getElem?_append_left (l₁ := xs) (by omega), h i h1]
    by_cases h2 : i < news.length
    · rw [if_pos h2, List.getElem?_append_left (by omega), List.getElem?_take_of_lt h1]
    · rw [if_neg h2, List.getElem?_append_right (by omega), hm, List.getElem?_drop]
      congr 1; omega
  · rw [List.getElem?_append_right (l₁ := xs) (by omega), List.getElem?_append_right (by omega), hm, List.getElem?_drop, List.getElem?_drop, hx]
    by_cases h2 : len ≤ news.length
    · congr 1; omega
    · rw [Nat.min_eq_right (by omega)]
      congr 1; omega
def opCopy (P : Program) (get : Operand → RV) (hp : Hp) (nx : Nat) (t : TypeId) (x y : Operand) : Option Out :=
  match get x, P.underlying t with
  | .sv (.one (.sl id off len cap)), some (.slice e) => (match hlook hp id, P.underlying e, sizeP P e with
    | some (.cells cs ty), some (.int k), some 1 => (match srcOf hp [.int k] (get y) with
      | some ([], _, l) => (match copyCV k l ((cs.drop off).take len) 0 with
        | some xs => bif Nat.ble (off + len) cs.length then
          some ⟨.sv (.one (.val false (.int .i64 (bif Nat.blt l.length len then l.length else len)))), [(id, .cells (stCells cs off xs) ty), (id, .elem id off len)], nx, [id]⟩ else none
        | none => none)
      | _ => none)
    | _, _, _ => none)
  | _, _ => none
theorem opCopy_ok {P : Program} {o : Oper} {get : Operand → RV} {hp : Hp} {nx : Nat} {out : Out} {t t' : TypeId} {x y : Operand} {c : Call} (ho : o.op = .call c) (hc : c.callee = .builtin .copy) (ha : c.args.toList = [x, y]) (hat : c.argTypes.toList = [t, t'])
    (h : opCopy P get hp nx t x y = some out) : OpOk P o get hp nx out := by
  have ha' : c.args = #[x, y] := by apply Array.ext'; simpa using ha
  have hat' : c.argTypes = #[t, t'] := by apply Array.ext'; simpa using hat
  have hop : o.op.operands = #[x, y] := by rw [ho]; simp [Op.operands, Call.operands, hc, ha']
  unfold opCopy at h
  split at h
  · rename_i id off len cap e hgx hu
    split at h
    · rename_i cs ty k hl hue hs1
      split at h
      · rename_i Y l hsrc
        split at h
        rotate_left
        · cases h
        rename_i xs hcp
        cases hb : Nat.ble (off + len) cs.length with
        | false => rw [hb] at h; cases h
        | true =>
          rw [hb] at h
          cases h
          have hb := Nat.le_of_ble_eq_true hb
          intro en a w hx hsat K Q hK
          have hx1 := hx x (by rw [hop]; simp)
          have hx2 := hx y (by rw [hop]; simp)
          rw [hgx] at hx1
          have hx1' : a.eval x = .slice (some ⟨en.ρ id, off, none⟩) len cap := hx1
          have hcell := hsat.holds _ _ hl
          simp only [HO.holds] at hcell
          obtain ⟨φ2, ⟨d, ad, cp, news, hv, hnone, hnl, hat2, hct⟩, _⟩ := srcOf_ok hsrc (by simp) hsat (T := []) (vx := .slice none 0 0) (fun id h => by cases h) (fun b h => by cases h)
          rw [hv] at hx2
          obtain ⟨hxl, hxs⟩ := copyCV_spec (e := en) hcp
          have hlen : ((cs.drop off).take len).length = len := by simp; omega
          rw [hlen] at hxl hxs
          have hnl1 : news.length = l.length := by simpa using hnl
          have hnews : ∀ i, i < l.length → news[i]? = some (.int k (rd l i 0).int) := by
            intro i hi
            obtain ⟨u, hu1, hu2⟩ := hct i hi 0 (.int k) rfl
            have e1 : i * [Sh.int k].length + 0 = i := by simp
            rw [e1] at hu1
            have : u = .int k (rd l i 0).int := by cases d <;> exact hu2
            rw [hu1, this]
          -- what lies there behind it
          have hrow : ((cs.map (CV.den en)).toArray.toList.take off ++ news.take len ++ (cs.map (CV.den en)).toArray.toList.drop (off + (news.take len).length)).toArray = ((stCells cs off xs).map (CV.den en)).toArray := by
            have := lay_eq (cs := cs.map (CV.den en)) (news := news) (xs := xs.map (CV.den en)) (off := off) (len := len) (by simp [hxl]) (by simpa using hb) (fun i hi => by
              rw [hxs i hi, Nat.zero_add]
              by_cases h3 : i < l.length
              · rw [if_pos h3, if_pos (by omega), hnews i h3]
              · rw [if_neg h3, if_neg (by omega)]
                simp [List.getElem?_take_of_lt hi])
            rw [show (cs.map (CV.den en)).toArray.toList = cs.map (CV.den en) from rfl, this]
            simp [stCells, List.map_take, List.map_drop, hxl]
          have h1c : ∀ v ∈ news.take len, v.oneCell' = true := by
            intro v hv
            obtain ⟨i, hi, rfl⟩ := List.getElem_of_mem hv
            have hi' : i < l.length := by simp [hnl1] at hi; omega
            have := hnews i hi'
            simp only [List.getElem_take]
            rw [List.getElem?_eq_getElem (by omega)] at this
            rw [Option.some.inj this]
            rfl
          have hres : (goInt ((news.take len).length : Nat)) = Value.int .i64 (bif Nat.blt l.length len then (l.length : Int) else (len : Int)) := by
            have hm : (news.take len).length = min len l.length := by simp [hnl1]
            rw [hm]
            by_cases h4 : l.length < len
            · rw [show Nat.blt l.length len = true from Nat.ble_eq_true_of_le h4, Nat.min_eq_right (by omega)]; rfl
            · rw [show Nat.blt l.length len = false from by cases hq : Nat.blt l.length len with | false => rfl | true => exact absurd (Nat.le_of_ble_eq_true hq) h4, Nat.min_eq_left (by omega)]; rfl
          have hrun : (Builtin.copy_ #[t, t'] o.type #[.slice (some ⟨en.ρ id, off, none⟩) len cap, .slice ad l.length cp]).run P w = .ok (Value.int .i64 (bif Nat.blt l.length len then (l.length : Int) else (len : Int))) (w.setRow (en.ρ id) ((stCells cs off xs).map (CV.den en)).toArray) := by
            have hs1' : (P.info? e).map (·.size) = some 1 := by unfold sizeP at hs1; exact hs1
            cases had : ad with
            | none =>
              obtain ⟨hz, rfl⟩ := hnone had
              have hl0 : l = [] := List.length_eq_zero_iff.1 hz
              subst hl0
              have hn0 : news = [] := List.length_eq_zero_iff.1 hnl1
              subst hn0
              have := run_copy_nil (P := P) w t t' o.type e ⟨en.ρ id, off, none⟩ len cap hu (by rw [hs1']; rfl)
              have hset : w.setRow (en.ρ id) ((stCells cs off xs).map (CV.den en)).toArray = w := by
                rw [← hrow]
                simp only [List.take_nil, List.append_nil, List.length_nil, Nat.add_zero, List.take_append_drop]
                exact setRow_self w _ _ _ _ hcell
              rw [hset]
              refine (show _ = _ from this).trans ?_
              rw [List.take_nil] at hres
              exact congrArg (fun v => Result.ok v w) hres
            | some a0 =>
              have := run_copy_row (P := P) w t t' o.type e (en.ρ id) off len cap a0 l.length cp _ ty (news.take len) hu hs1' hcell (by simp [hnl1, Nat.min_comm]) (fun j v hj => by
                have hj' : news[j]? = some v := by
                  rw [List.getElem?_take] at hj
                  split at hj
                  · exact hj
                  · cases hj
                exact hat2 a0 had j v hj') (by simp [hnl1]; omega) h1c
              rw [this, hres, hrow]
          refine wp_value (w' := w.setRow (en.ρ id) ((stCells cs off xs).map (CV.den en)).toArray) (v := Value.int .i64 (bif Nat.blt l.length len then (l.length : Int) else (len : Int))) ?_ ?_
          · simp only [execOp, ho, resolve, hc, ha', hat', List.map_toArray, List.map_cons, List.map_nil, hx1', hx2, Sem.run_bind, Sem.run_pure, Result.andThen_ok, invoke, builtin, hrun]
          · refine hK en _ (PostOp.log ⟨fun _ _ => .refl _ _, rfl, rfl, rfl, ?_, ?_, ⟨?_, ?_⟩, ?_, ?_⟩)
            · simp [World.setRow]
            · intro k hk hne
              exact setRow_other _ _ _ _ (fun h' => hne id (by simp) _ hl h')
            · intro id' o' ho'
              obtain ⟨rfl, rfl⟩ := hlook_one ho'
              exact setRow_heap w _ _ _ ty (0, 0) hcell
            · intro id1 o1 ho1 id2 o2 ho2 hne
              exact absurd ((hlook_one ho1).1.trans (hlook_one ho2).1.symm) hne
            · intro id' o' b ho' hf
              obtain ⟨rfl, rfl⟩ := hlook_one ho'
              exact .inr ⟨_, by simp, _, hl, hf⟩
            · intro id' o' b ho' hf
              obtain ⟨rfl, rfl⟩ := hlook_one ho'
              exact .inr (.inl ⟨_, by simp, _, hl, hf⟩)
      · cases h
    · cases h
  · cases h
/-- An element of an array by an open number: all the places that it may be. -/
def altsOf (mk : Nat → Option Out) (n : Int) : List Nat → Option (List (Bool × Out))
  | [] => some []
  | j :: js => match mk j, altsOf mk n js with
    | some out, some l => some ((decide (n = j), out) :: l)
    | _, _ => none
theorem altsOf_spec {mk : Nat → Option Out} {n : Int} : ∀ {js : List Nat} {l : List (Bool × Out)}, altsOf mk n js = some l → ∀ p ∈ l, ∃ j ∈ js, mk j = some p.2 ∧ p.1 = decide (n = j) := by
  intro js
  induction js with
  | nil => intro l h; cases h; intro p hp; cases hp
  | cons j js ih =>
    intro l h
    simp only [altsOf] at h
    split at h
    · rename_i out l' h1 h2
      cases h
      intro p hp
      rcases List.mem_cons.1 hp with rfl | hp
      · exact ⟨j, List.mem_cons_self, h1, rfl⟩
      · obtain ⟨j', g1, g2⟩ := ih h2 p hp
        exact ⟨j', List.mem_cons_of_mem _ g1, g2⟩
    · cases h
def idxOpen (P : Program) (o : Oper) (get : Operand → RV) (nx : Nat) : Option (List (Bool × Out)) :=
  match o.op with
  | .indexAddr t x i => (match get x, get i, P.underlying t with
    | .sv (.one (.ptr id off)), .sv (.one (.val false (.int _ n))), some (.array len e) => (match sizeP P e with
      | some s => bif Nat.ble len 64 then altsOf (fun j => some (.val nx (.sv (.one (.ptr id (off + j * s)))))) n (List.range len) else none
      | none => none)
    | _, _, _ => none)
  | .index t x i => (match get x, get i, P.underlying t with
    | .sv (.agg cs), .sv (.one (.val false (.int _ n))), some (.array len e) => (match sizeP P e with
      | some s => bif Nat.ble len 64 then altsOf (fun j => (ldCells P e cs (j * s)).map fun r => .val nx (.sv r)) n (List.range len) else none
      | none => none)
    | _, _, _ => none)
  | _ => none
theorem inB_ofNat {j len : Nat} (h : j < len) : inB ((j : Nat) : Int) len = true := Nat.ble_eq_true_of_le h
theorem idxOpen_ok {P : Program} {o : Oper} {get : Operand → RV} {hp : Hp} {nx : Nat} {l : List (Bool × Out)} (h : idxOpen P o get nx = some l) : ∀ p ∈ l, p.1 = true → OpOk P o get hp nx p.2 := by
  unfold idxOpen at h
  split at h
  · rename_i t x i ho
    split at h
    · rename_i id off k n len e hgx hgi hu
      split at h
      · rename_i s hs
        cases hb : Nat.ble len 64 with
        | false => rw [hb] at h; cases h
        | true =>
          rw [hb] at h
          intro p hp hp1
          obtain ⟨j, hj, h1, h2⟩ := altsOf_spec h p hp
          have hj := List.mem_range.1 hj
          rw [h2, decide_eq_true_eq] at hp1
          subst hp1
          refine opIndexAddr_ok ho ?_
          unfold opIndexAddr
          rw [hgi, hgx, hu]
          simp only [intOfRV, hs, inB_ofNat hj, cond_true]
          exact h1
      · cases h
    · cases h
  · rename_i t x i ho
    split at h
    · rename_i cs k n len e hgx hgi hu
      split at h
      · rename_i s hs
        cases hb : Nat.ble len 64 with
        | false => rw [hb] at h; cases h
        | true =>
          rw [hb] at h
          intro p hp hp1
          obtain ⟨j, hj, h1, h2⟩ := altsOf_spec h p hp
          have hj := List.mem_range.1 hj
          rw [h2, decide_eq_true_eq] at hp1
          subst hp1
          obtain ⟨r, h3, h4⟩ := Option.map_eq_some_iff.1 h1
          refine opIndex_ok ho ?_
          unfold opIndex
          rw [hgi, hgx, hu]
          simp only [intOfRV, hs, inB_ofNat hj, cond_true, Int.toNat_natCast, h3]
          exact congrArg some h4
      · cases h
    · cases h
  · cases h
theorem slice_nil {P : Program} {t el : TypeId} (h0 : P.underlying t = some (.slice el)) (a : Addr) (n c : Nat) (w : World) : (Op.equal t (.slice (some a) n c) (.slice none 0 0)).run P w = .ok false w := by
  show (Op.equalIn (9999 + 1) t (.slice (some a) n c) (.slice none 0 0)).run P w = _
  unfold Op.equalIn
  simp only [Sem.run_bind, run_underlying h0, Result.andThen_ok, Sem.run_pure]
/-- A slice that leads somewhere, beside nil. -/
def opNilS (P : Program) (get : Operand → RV) (hp : Hp) (nx : Nat) (op : BinOp) (t : TypeId) (x y : Operand) : Option (Bool × Out) :=
  match op, P.underlying t, get y with
  | .eql, some (.slice _), .sv (.one (.val _ (.slice none 0 0))) => (match get x with
    | .sv (.one (.sl _ _ _ _)) => some (true, boolOut true nx false)
    | .sv (.one (.ext id)) => (match (hlook hp id).bind HO.ls with
      | some p => some (decide (0 < p.2.length), boolOut true nx false)
      | none => none)
    | _ => none)
  | .neq, some (.slice _), .sv (.one (.val _ (.slice none 0 0))) => (match get x with
    | .sv (.one (.sl _ _ _ _)) => some (true, boolOut true nx true)
    | .sv (.one (.ext id)) => (match (hlook hp id).bind HO.ls with
      | some p => some (decide (0 < p.2.length), boolOut true nx true)
      | none => none)
    | _ => none)
  | _, _, _ => none
theorem ext_some {hp : Hp} {id : Nat} {p : List Sh × List (List Ct)} {e : Env} {w : World} (hsat : Sat e (hlook hp) w) (h : (hlook hp id).bind HO.ls = some p) (hl : 0 < p.2.length) : ∃ a n c, e.slv id = .slice (some a) n c := by
  cases ho : hlook hp id with
  | none => rw [ho] at h; cases h
  | some o =>
    rw [ho] at h
    have hh := hsat.holds _ _ ho
    obtain ⟨d, hr⟩ := HO.rowsAt hh (p := p) h
    obtain ⟨a, cap, hv, h1, h2, h0, h3⟩ := hr
    obtain ⟨b, off, ha, _⟩ := h3 0 hl
    exact ⟨_, _, _, by rw [hv, ha]⟩
theorem opNilS_ok {P : Program} {o : Oper} {get : Operand → RV} {hp : Hp} {nx : Nat} {out : Out} {op : BinOp} {t yt : TypeId} {x y : Operand} {b : Bool} (ho : o.op = .binOp op t x y yt) (h : opNilS P get hp nx op t x y = some (b, out)) (hb : b = true) : OpOk P o get hp nx out := by
  have main : ∀ (r : Bool) (el : TypeId) (k : Bool), op = (if r then .neq else .eql) → P.underlying t = some (.slice el) → get y = .sv (.one (.val k (.slice none 0 0))) → (∀ e w, Sat e (hlook hp) w → ∃ a n c, (get x).den e = .slice (some a) n c) → out = boolOut true nx r → OpOk P o get hp nx out := by
    intro r el k hop h0 hy hx0 hout
    subst hout
    refine OpOk.val fun e a w hx hs => ?_
    have hx1 := hx x (by rw [ho]; simp [Op.operands])
    have hx2 := hx y (by rw [ho]; simp [Op.operands])
    rw [hy] at hx2
    obtain ⟨a0, n, c, hd⟩ := hx0 e w hs
    rw [hd] at hx1
    have hx2' : a.eval y = .slice none 0 0 := hx2
    cases r with
    | false =>
      subst hop
      simp only [execOp, ho, hx1, hx2', Sem.run_bind]
      have e1 : binOp .eql t (.slice (some a0) n c) (.slice none 0 0) = (do pure (.bool (← Op.equal t (.slice (some a0) n c) (.slice none 0 0)))) := rfl
      simp only [eqGuard, Bool.false_eq_true, if_false, e1, Sem.run_bind, slice_nil h0, Result.andThen_ok, Sem.run_pure]
      rfl
    | true =>
      subst hop
      simp only [execOp, ho, hx1, hx2', Sem.run_bind]
      have e1 : binOp .neq t (.slice (some a0) n c) (.slice none 0 0) = (do pure (.bool (!(← Op.equal t (.slice (some a0) n c) (.slice none 0 0))))) := rfl
      simp only [eqGuard, if_true, e1, Sem.run_bind, slice_nil h0, Result.andThen_ok, Sem.run_pure]
      rfl
  subst hb
  unfold opNilS at h
  split at h
  · rename_i el k h0 hy
    split at h
    · rename_i id off len cap hgx
      cases h
      exact main false el k rfl h0 hy (fun e w _ => ⟨⟨e.ρ id, off, none⟩, len, cap, by rw [hgx]; rfl⟩) rfl
    · rename_i id hgx
      split at h
      · rename_i p hp'
        simp only [Option.some.injEq, Prod.mk.injEq, decide_eq_true_eq] at h
        exact main false el k rfl h0 hy (fun e w hs => by rw [hgx]; exact ext_some hs hp' h.1) h.2.symm
      · cases h
    · cases h
  · rename_i el k h0 hy
    split at h
    · rename_i id off len cap hgx
      cases h
      exact main true el k rfl h0 hy (fun e w _ => ⟨⟨e.ρ id, off, none⟩, len, cap, by rw [hgx]; rfl⟩) rfl
    · rename_i id hgx
      split at h
      · rename_i p hp'
        simp only [Option.some.injEq, Prod.mk.injEq, decide_eq_true_eq] at h
        exact main true el k rfl h0 hy (fun e w hs => by rw [hgx]; exact ext_some hs hp' h.1) h.2.symm
      · cases h
    · cases h
  · cases h
end Go.Proofs.Ythgneojhhocflaa
