/- A symbolic way through the code of a call: what each operation answers, and that it does. No condition. -/
import Derived.Test.YthgneojhhocflaaEng2
set_option linter.unusedVariables false
namespace Go.Proofs.Ythgneojhhocflaa
open Go.RowKit

/-- A value, nothing else. -/
def Out.val (nx : Nat) (v : RV) : Out := ⟨v, [], nx, []⟩
/-- The rows of a slice of an open length. -/
def HO.ls : HO → Option (List Sh × List (List Ct))
  | .grid sh l => some (sh, l)
  | .row sh _ l => some (sh, l)
  | _ => none
def opMove (get : Operand → RV) (nx : Nat) (x : Operand) : Option Out := some (.val nx (get x))
def opAlloc (P : Program) (nx : Nat) (t : TypeId) : Option Out :=
  match symPure P (zeroValue t) with
  | some v => some ⟨.sv (.one (.ptr nx 0)), [(nx, .cells (v.cells.toList.map (.val true)) t)], nx + 1, []⟩
  | none => none
def opBox (get : Operand → RV) (nx : Nat) (t : TypeId) (x : Operand) : Option Out :=
  match get x with
  | .sv s => bif s.plain then some ⟨.sv (.one (.ptr nx 0)), [(nx, .cells s.cells t)], nx + 1, []⟩ else none
  | _ => none
def opLoad (P : Program) (get : Operand → RV) (hp : Hp) (nx : Nat) (t : TypeId) (x : Operand) : Option Out :=
  match get x with
  | .sv (.one (.ptr id off)) => (match hlook hp id with
    | some (.cells cs _) => (match ldCells P t cs off with
      | some s => some (.val nx (.sv s))
      | none => none)
    | _ => none)
  | _ => none
def opStore (P : Program) (get : Operand → RV) (hp : Hp) (nx : Nat) (t : TypeId) (x y : Operand) : Option Out :=
  match get x, get y with
  | .sv (.one (.ptr id off)), .sv s => (match hlook hp id, sizeP P t with
    | some (.cells cs ty), some n => bif s.plain && Nat.beq s.cells.length n && Nat.ble (off + n) cs.length then
        some ⟨RV.und, [(id, .cells (stCells cs off s.cells) ty), (id, .elem id off n)], nx, [id]⟩ else none
    | _, _ => none)
  | _, _ => none
def opNilCheck (get : Operand → RV) (nx : Nat) (x : Operand) : Option Out :=
  match get x with
  | .sv (.one (.ptr id off)) => some (.val nx (.sv (.one (.ptr id off))))
  | .sv (.one (.eptr id off)) => some (.val nx (.sv (.one (.eptr id off))))
  | .sv (.one (.fn f c)) => some (.val nx (.sv (.one (.fn f c))))
  | _ => none
def fieldP (P : Program) (t : TypeId) (f : Nat) : Option Field :=
  match P.underlying t with
  | some (.struct fs) => fs[f]?
  | _ => none
def opFieldAddr (P : Program) (get : Operand → RV) (nx : Nat) (t : TypeId) (x : Operand) (f : Nat) : Option Out :=
  match fieldP P t f with
  | some fl => (match sizeP P fl.type with
    | some (n + 1) => (match get x with
      | .sv (.one (.ptr id off)) => some (.val nx (.sv (.one (.ptr id (off + fl.offset)))))
      | .sv (.one (.eptr id off)) => some (.val nx (.sv (.one (.eptr id (off + fl.offset)))))
      | _ => none)
    | _ => none)
  | none => none
def opField (P : Program) (get : Operand → RV) (nx : Nat) (t : TypeId) (x : Operand) (f : Nat) : Option Out :=
  match fieldP P t f, get x with
  | some fl, .sv (.agg cs) => (match ldCells P fl.type cs fl.offset with
    | some s => some (.val nx (.sv s))
    | none => none)
  | _, _ => none
def inB (i : Int) (n : Nat) : Bool := match i with | .ofNat k => Nat.ble (k + 1) n | _ => false
/-- The address of an element: of an array, of a slice of one's own, by a known number. -/
def opIndexAddr (P : Program) (get : Operand → RV) (nx : Nat) (t : TypeId) (x i : Operand) : Option Out :=
  match intOfRV (get i), P.underlying t, get x with
  | some n, some (.array len e), .sv (.one (.ptr id off)) => (match sizeP P e with
    | some s => bif inB n len then some (.val nx (.sv (.one (.ptr id (off + n.toNat * s))))) else none
    | none => none)
  | some n, some (.slice e), .sv (.one (.sl id off len cap)) => (match sizeP P e with
    | some s => bif inB n len then some (.val nx (.sv (.one (.ptr id (off + n.toNat * s))))) else none
    | none => none)
  | some n, some (.array len e), .sv (.one (.eptr id off)) => (match sizeP P e with
    | some s => bif inB n len then some (.val nx (.sv (.one (.eptr id (off + n.toNat * s))))) else none
    | none => none)
  | _, _, _ => none
def opIndex (P : Program) (get : Operand → RV) (nx : Nat) (t : TypeId) (x i : Operand) : Option Out :=
  match intOfRV (get i), P.underlying t, get x with
  | some n, some (.array len e), .sv (.agg cs) => (match sizeP P e with
    | some s => bif inB n len then (match ldCells P e cs (n.toNat * s) with
        | some r => some (.val nx (.sv r))
        | none => none) else none
    | none => none)
  | _, _, _ => none
def opExtract (get : Operand → RV) (nx : Nat) (x : Operand) (i : Nat) : Option Out :=
  match get x with
  | .tup l => (match l[i]? with
    | some s => some (.val nx (.sv s))
    | none => none)
  | _ => none
def placesP (P : Program) (t : TypeId) : Option (Nat → Option (Nat × Nat)) :=
  match P.underlying t with
  | some (.array _ e) => (match P.info? e with
    | some ie => some fun i => some (i * ie.size, ie.size)
    | none => none)
  | some (.struct fields) => (match fields.toList.mapM (fun f => (P.info? f.type).map fun i => (f.offset, i.size)) with
    | some places => some (places.toArray[·]?)
    | none => none)
  | _ => none
def opBuild (P : Program) (get : Operand → RV) (nx : Nat) (t : TypeId) (parts : Array (Nat × Operand)) : Option Out :=
  match (P.info? t).bind (·.zero), placesP P t, partsSV get parts.toList with
  | some z, some place, some ps => (match fillCV place (z.cells.toList.map (.val true)) ps with
    | some cs => some (.val nx (.sv (.agg cs)))
    | none => none)
  | _, _, _ => none
def opBuildSlice (P : Program) (get : Operand → RV) (nx : Nat) (t : TypeId) (len : Nat) (parts : Array (Nat × Operand)) : Option Out :=
  match P.underlying t with
  | some (.slice e) => (match sizeP P e, (P.info? e).bind (·.zero), partsSV get parts.toList with
    | some s, some z, some ps => bif Nat.ble (len * s) 4096 && Nat.blt 0 s && Nat.beq z.cells.size s then
        (match fillCV (fun i => some (i * s, s)) ((List.range (len * s)).map fun j => .val true (z.cells.getD (j % s) undef)) ps with
        | some cs => some ⟨.sv (.one (.sl nx 0 len len)), [(nx, .cells cs e)], nx + 1, []⟩
        | none => none) else none
    | _, _, _ => none)
  | _ => none
/-- A receiver's cells, kept for a bound method. -/
def bmOf : List CV → Option (List (BV))
  | [] => some []
  | .val _ v :: r => (match bmOf r with | some l => some (.inl v :: l) | none => none)
  | .ext id :: r => (match bmOf r with | some l => some (.inr id :: l) | none => none)
  | .sl id off len cap :: r => (match bmOf r with | some l => some (.sl id off len cap :: l) | none => none)
  | _ => none
def opMakeFunc (get : Operand → RV) (nx : Nat) (fn : Fn) (first caps : Array Operand) : Option Out :=
  match fn, first.toList, capsOf get caps.toList with
  | .func f, [], some l => some (.val nx (.sv (.one (.fn f l))))
  | .func f, [x], some [] => (match get x with
    | .sv (.agg cs) => (match bmOf cs with
      | some l => some (.val nx (.sv (.one (.bm f l))))
      | none => none)
    | _ => none)
  | _, _, _ => none
def boolOut (k : Bool) (nx : Nat) (b : Bool) : Out := .val nx (.sv (.one (.val k (.bool b))))
def opBin (P : Program) (o : Oper) (get : Operand → RV) (nx : Nat) (op : BinOp) (t : TypeId) (x y : Operand) : Option Out :=
  match get x, get y with
  | .sv (.agg xs), .sv (.agg ys) =>
    bif xs.all (fun c => c.ids.isEmpty) && ys.all (fun c => c.ids.isEmpty) && !P.eqGuardType P.depth t then
      (match op, eqSym P 64 t ((SV.agg xs).den env0) ((SV.agg ys).den env0) with
      | .eql, some b => some (boolOut (xs.all CV.known && ys.all CV.known) nx b)
      | .neq, some b => some (boolOut (xs.all CV.known && ys.all CV.known) nx (!b))
      | _, _ => none) else none
  | _, _ => pureOp P o get nx
def opLen (P : Program) (o : Oper) (get : Operand → RV) (hp : Hp) (nx : Nat) (t : TypeId) (x : Operand) : Option Out :=
  match get x with
  | .sv (.one (.sl id off len cap)) => (match P.underlying t with
    | some (.slice _) => some (.val nx (.sv (.one (.val true (.int .i64 len)))))
    | _ => none)
  | .sv (.one (.ext id)) => (match P.underlying t, (hlook hp id).bind HO.ls with
    | some (.slice _), some p => some (.val nx (.sv (.one (.val false (.int .i64 p.2.length)))))
    | _, _ => none)
  | _ => pureOp P o get nx
def opPick (get : Operand → RV) (nx : Nat) (c a b : Operand) : Option Out :=
  match get c with
  | .sv (.one (.val _ (.bool d))) => some (.val nx (bif d then get a else get b))
  | _ => none
/-- What an operation answers that enters no function. -/
def simple (P : Program) (o : Oper) (get : Operand → RV) (hp : Hp) (nx : Nat) : Option Out :=
  match o.op with
  | .move x => opMove get nx x
  | .assign x => opMove get nx x
  | .pick c a b => opPick get nx c a b
  | .alloc t => opAlloc P nx t
  | .box t x => opBox get nx t x
  | .load t x => opLoad P get hp nx t x
  | .store t x y => opStore P get hp nx t x y
  | .nilCheck x => opNilCheck get nx x
  | .fieldAddr t x f => opFieldAddr P get nx t x f
  | .field t x f => opField P get nx t x f
  | .indexAddr t x i => opIndexAddr P get nx t x i
  | .index t x i => opIndex P get nx t x i
  | .extract x i => opExtract get nx x i
  | .build t ps => opBuild P get nx t ps
  | .buildSlice t n ps => opBuildSlice P get nx t n ps
  | .makeFunc f a b => opMakeFunc get nx f a b
  | .binOp op t x y _ => opBin P o get nx op t x y
  | .unOp _ _ _ => pureOp P o get nx
  | .convert _ _ _ => pureOp P o get nx
  | .call c => (match c.callee, c.args.toList, c.argTypes.toList with
    | .builtin .len, [x], [t] => opLen P o get hp nx t x
    | .builtin .min, _, _ => pureOp P o get nx
    | .builtin .max, _, _ => pureOp P o get nx
    | _, _, _ => none)
  | _ => none

/-- The names are old ones. -/
structure WfOp (get : Operand → RV) (o : Oper) (hp : Hp) (nx : Nat) : Prop where
  get : ∀ x ∈ o.op.operands, ∀ id ∈ (get x).ids, id < nx
  hp : ∀ id ob, hlook hp id = some ob → id < nx ∧ ∀ i ∈ ob.ids, i < nx
theorem wp_value {P : Program} {o : Oper} {a : Act} {w w' : World} {v : Value} {K : Act → World → Prop} {Q : Exit → Act → World → Prop}
    (h : (execOp a.eval o).run P w = .ok (.value v) w') (hK : K (a.put o.dst v) w') : o.wp P a w K Q := by
  unfold Oper.wp; rw [h]; exact hK
theorem wp_skipped {P : Program} {o : Oper} {a : Act} {w w' : World} {K : Act → World → Prop} {Q : Exit → Act → World → Prop}
    (h : (execOp a.eval o).run P w = .ok .skip w') (hK : K (a.put o.dst undef) w') : o.wp P a w K Q := by
  unfold Oper.wp; rw [h]; exact hK
/-- A value, the world as it was. -/
theorem OpOk.val {P : Program} {o : Oper} {get : Operand → RV} {hp : Hp} {nx : Nat} {v : RV}
    (h : ∀ (e : Env) (a : Act) (w : World), (∀ x ∈ o.op.operands, a.eval x = (get x).den e) → Sat e (hlook hp) w → (execOp a.eval o).run P w = .ok (.value (v.den e)) w) : OpOk P o get hp nx (.val nx v) :=
  fun e a w hx hs K Q hK => wp_value (h e a w hx hs) (hK e w (PostOp.none e _ nx nx v w))

theorem pureOp_ok {P : Program} {o : Oper} {get : Operand → RV} {hp : Hp} {nx : Nat} {out : Out} (hsel : ∀ cs b, o.op ≠ .select cs b) (h : pureOp P o get nx = some out) : OpOk P o get hp nx out := by
  unfold pureOp at h
  cases hall : o.op.operands.toList.all (fun x => (get x).ids.isEmpty) with
  | false => rw [hall] at h; cases h
  | true =>
    rw [hall] at h
    simp only [cond_true] at h
    split at h
    · rename_i v hv
      cases h
      refine OpOk.val fun e a w hx hs => ?_
      rw [RV.den_ofVal, execOp_congr (ρ' := fun x => (get x).den env0) o hsel fun x hm => ?_]
      · exact symPure_run _ _ hv w
      · rw [hx x hm]
        have := List.all_eq_true.1 hall x (by simpa using hm)
        simp only [List.isEmpty_iff] at this
        exact (RV.den_same _ fun id hi => by rw [this] at hi; cases hi).symm
    · cases h

theorem opMove_ok {P : Program} {o : Oper} {get : Operand → RV} {hp : Hp} {nx : Nat} {out : Out} {x : Operand} (ho : o.op = .move x ∨ o.op = .assign x) (h : opMove get nx x = some out) : OpOk P o get hp nx out := by
  cases h
  refine OpOk.val fun e a w hx hs => ?_
  have := hx x (by rcases ho with ho | ho <;> rw [ho] <;> simp [Op.operands])
  rcases ho with ho | ho <;> simp only [execOp, ho] <;> rw [← this] <;> rfl

/-- A new block. -/
def Env.set (e : Env) (id b : Nat) : Env := { e with ρ := fun i => if i = id then b else e.ρ i }
theorem Env.set_same {e : Env} {id b i : Nat} (h : i ≠ id) : e.same (e.set id b) i := ⟨by simp [Env.set, h], rfl, rfl⟩
theorem hlook_one {n id : Nat} {ob o : HO} (h : hlook [(n, ob)] id = some o) : id = n ∧ o = ob := by
  have := hlook_mem h
  simpa using this
theorem PostOp.new {e : Env} {hp : Hp} {nx : Nat} {w : World} {v : RV} {cs : List CV} {t : TypeId} (hids : ∀ i ∈ cs.flatMap CV.ids, i < nx) :
    PostOp e (e.set nx w.heap.size) (hlook hp) nx ⟨v, [(nx, .cells cs t)], nx + 1, []⟩ w (w.alloc (.cells (cs.map (CV.den e)).toArray t)) := by
  have hden : cs.map (CV.den (e.set nx w.heap.size)) = cs.map (CV.den e) := cvs_den_same cs fun i hi => Env.set_same (Nat.ne_of_lt (hids i hi))
  refine ⟨fun id hid => Env.set_same (by simp only at hid; omega), rfl, rfl, rfl, by simp, fun k hk _ => Below.heap_alloc _ _ _ hk, ⟨?_, ?_⟩, ?_, ?_⟩
  · intro id o ho
    obtain ⟨rfl, rfl⟩ := hlook_one ho
    simp only [HO.holds, hden]
    exact heap_new _ _ _ (by simp [Env.set])
  · intro id o ho id' o' ho' hne
    obtain ⟨rfl, _⟩ := hlook_one ho
    obtain ⟨rfl, _⟩ := hlook_one ho'
    exact absurd rfl hne
  · intro id o b ho hf
    obtain ⟨rfl, rfl⟩ := hlook_one ho
    left
    rw [show b = _ from hf]
    simp [Env.set]
  · intro id o b ho hf
    obtain ⟨rfl, rfl⟩ := hlook_one ho
    left
    rw [show b = _ from hf]
    simp [Env.set]
theorem opAlloc_ok {P : Program} {o : Oper} {get : Operand → RV} {hp : Hp} {nx : Nat} {out : Out} {t : TypeId} (ho : o.op = .alloc t) (h : opAlloc P nx t = some out) : OpOk P o get hp nx out := by
  unfold opAlloc at h
  split at h
  · rename_i v hv
    cases h
    intro e a w hx hs K Q hK
    refine wp_value (w' := w.alloc (.cells v.cells t)) (v := .pointer (some ⟨w.heap.size, 0, none⟩)) ?_ ?_
    · simp only [execOp, ho, Instr.alloc, Sem.run_bind, symPure_run _ _ hv, Result.andThen_ok]
      rfl
    · have := hK _ _ (PostOp.new (e := e) (hp := hp) (nx := nx) (w := w) (v := .sv (.one (.ptr nx 0))) (cs := v.cells.toList.map (.val true)) (t := t) (by simp [List.flatMap_map, CV.ids]))
      simp only [List.map_map, Function.comp_def, CV.den, List.map_id', Array.toArray_toList] at this
      simpa [RV.den, SV.den, CV.den, Env.set] using this
  · cases h
theorem opBox_ok {P : Program} {o : Oper} {get : Operand → RV} {hp : Hp} {nx : Nat} {out : Out} {t : TypeId} {x : Operand} (hwf : WfOp get o hp nx) (ho : o.op = .box t x) (h : opBox get nx t x = some out) : OpOk P o get hp nx out := by
  unfold opBox at h
  split at h
  · rename_i s hs
    cases hp' : s.plain with
    | false => rw [hp'] at h; cases h
    | true =>
      rw [hp'] at h
      cases h
      intro e a w hx hsat K Q hK
      have hx' := hx x (by rw [ho]; simp [Op.operands])
      have hw := hwf.get x (by rw [ho]; simp [Op.operands])
      rw [hs] at hx' hw
      refine wp_value (w' := w.alloc (.cells (s.cells.map (CV.den e)).toArray t)) (v := .pointer (some ⟨w.heap.size, 0, none⟩)) ?_ ?_
      · simp only [execOp, ho, Instr.box, hx', RV.den, newVar, newRow, SV.cells_den e hp']
        rfl
      · have := hK _ _ (PostOp.new (e := e) (hp := hp) (nx := nx) (w := w) (v := .sv (.one (.ptr nx 0))) (cs := s.cells) (t := t) (fun i hi => hw i (by
          cases s with
          | one c => simpa [SV.cells, RV.ids, SV.ids] using hi
          | agg cs => simpa [SV.cells, RV.ids, SV.ids] using hi)))
        simpa [RV.den, SV.den, CV.den, Env.set] using this
  · cases h

theorem addr_add (b o j : Nat) : (⟨b, o, none⟩ : Addr).add j = ⟨b, o + j, none⟩ := by unfold Addr.add; split <;> simp_all
theorem isAgg_run {P : Program} {t : TypeId} {r : Bool} (h : isAggP P t = some r) (w : World) : (isAgg t).run P w = .ok r w := by
  unfold isAggP at h
  split at h <;> simp_all [isAgg, run_underlying]
theorem sizeP_run {P : Program} {t : TypeId} {n : Nat} (h : sizeP P t = some n) (w : World) : (sizeOf t).run P w = .ok n w := by
  obtain ⟨i, hi, rfl⟩ := Option.map_eq_some_iff.1 h
  simp [sizeOf, typeInfo, hi]
theorem ldCells_load {P : Program} {t : TypeId} {cs : List CV} {off b o : Nat} {s : SV} {e : Env} {w : World} (h : ldCells P t cs off = some s) (hc : ∀ (j : Nat) c, cs[j]? = some c → w.cell? ⟨b, o + j, none⟩ = some (c.den e)) :
    (loadVar t ⟨b, o + off, none⟩).run P w = .ok (s.den e) w := by
  unfold ldCells at h
  split at h
  · rename_i ha
    split at h
    · rename_i n hn
      cases hb : Nat.ble (off + n) cs.length with
      | false => rw [hb] at h; cases h
      | true =>
        rw [hb] at h
        cases h
        have hle := Nat.le_of_ble_eq_true hb
        have hl : (((cs.drop off).take n).map (CV.den e)).length = n := by simp; omega
        have := run_loadCells_list (P := P) w ⟨b, o + off, none⟩ (((cs.drop off).take n).map (CV.den e)) (fun j v hj => by
          rw [addr_add]
          simp only [List.getElem?_map, Option.map_eq_some_iff, List.getElem?_take, List.getElem?_drop] at hj
          obtain ⟨c, hc', rfl⟩ := hj
          split at hc'
          · rw [show o + off + j = o + (off + j) by omega]; exact hc _ c hc'
          · cases hc')
        rw [hl] at this
        simp only [loadVar, Sem.run_bind, isAgg_run ha, Result.andThen_ok, if_true, sizeP_run hn, this]
        rfl
    · cases h
  · rename_i ha
    split at h
    · rename_i c hcs
      cases h
      simp only [loadVar, Sem.run_bind, isAgg_run ha, Result.andThen_ok, Bool.false_eq_true, if_false, run_load, hc off c hcs]
      rfl
    · cases h
  · cases h
theorem ldCells_part {P : Program} {t : TypeId} {cs : List CV} {off : Nat} {s : SV} {e : Env} (w : World) (h : ldCells P t cs off = some s) :
    (part t (cs.map (CV.den e)).toArray off).run P w = .ok (s.den e) w := by
  unfold ldCells at h
  split at h
  · rename_i ha
    split at h
    · rename_i n hn
      cases hb : Nat.ble (off + n) cs.length with
      | false => rw [hb] at h; cases h
      | true =>
        rw [hb] at h
        cases h
        simp only [part, Sem.run_bind, isAgg_run ha, Result.andThen_ok, if_true, sizeP_run hn, Sem.run_pure]
        simp [SV.den, List.extract_toArray, List.extract_eq_take_drop, List.map_take, List.map_drop]
    · cases h
  · rename_i ha
    split at h
    · rename_i c hcs
      cases h
      simp only [part, Sem.run_bind, isAgg_run ha, Result.andThen_ok, Bool.false_eq_true, if_false]
      have : (cs.map (CV.den e)).toArray[off]? = some (c.den e) := by simp [hcs]
      rw [this]
      rfl
    · cases h
  · cases h
theorem blk_cell' {w : World} {n i : Nat} {C : Array Value} {T : TypeId} {fr : Nat × Nat} {v : Value} (h : w.heap[n]? = some (.cells C T fr)) (hi : C[i]? = some v) : w.cell? ⟨n, i, none⟩ = some v := by
  simp [World.cell?, h, hi]
theorem holds_cells_cell {e : Env} {w : World} {id : Nat} {cs : List CV} {t : TypeId} (h : (HO.cells cs t).holds e w id) (j : Nat) (c : CV) (hj : cs[j]? = some c) : w.cell? ⟨e.ρ id, 0 + j, none⟩ = some (c.den e) := by
  rw [Nat.zero_add]
  exact blk_cell' h (by simp [hj])
theorem opLoad_ok {P : Program} {o : Oper} {get : Operand → RV} {hp : Hp} {nx : Nat} {out : Out} {t : TypeId} {x : Operand} (ho : o.op = .load t x) (h : opLoad P get hp nx t x = some out) : OpOk P o get hp nx out := by
  unfold opLoad at h
  split at h
  · rename_i id off hg
    split at h
    · rename_i cs ty hl
      split at h
      · rename_i s hld
        cases h
        refine OpOk.val fun e a w hx hs => ?_
        have hx' := hx x (by rw [ho]; simp [Op.operands])
        rw [hg] at hx'
        simp only [execOp, ho, Instr.loadAt, hx', RV.den, SV.den, CV.den, Instr.sureAddr, Sem.run_bind, Sem.run_pure, Result.andThen_ok]
        have := ldCells_load hld (holds_cells_cell (hs.holds _ _ hl))
        rw [Nat.zero_add] at this
        rw [this]
        rfl
      · cases h
    · cases h
  · cases h

theorem stCells_length {cs xs : List CV} {off : Nat} (h : off + xs.length ≤ cs.length) : (stCells cs off xs).length = cs.length := by
  simp [stCells]; omega
theorem stCells_ids {cs xs : List CV} {off i : Nat} (h : i ∈ (stCells cs off xs).flatMap CV.ids) : i ∈ cs.flatMap CV.ids ∨ i ∈ xs.flatMap CV.ids := by
  simp only [stCells, List.flatMap_append, List.mem_append] at h
  rcases h with (h | h) | h
  · obtain ⟨c, hc, hi⟩ := List.mem_flatMap.1 h
    exact .inl (List.mem_flatMap.2 ⟨c, List.mem_of_mem_take hc, hi⟩)
  · exact .inr h
  · obtain ⟨c, hc, hi⟩ := List.mem_flatMap.1 h
    exact .inl (List.mem_flatMap.2 ⟨c, List.mem_of_mem_drop hc, hi⟩)
theorem plain_one (e : Env) {c : CV} (h : c.plain = true) : (c.den e).oneCell' = true := by
  cases c with
  | val k v => cases v <;> simp_all [CV.plain, CV.den, Value.oneCell']
  | _ => rfl
theorem splain_one (e : Env) {s : SV} (h : s.plain = true) : ∀ v ∈ s.cells.map (CV.den e), v.oneCell' = true := by
  intro v hv
  obtain ⟨c, hc, rfl⟩ := List.mem_map.1 hv
  cases s with
  | one c' => simp only [SV.cells, List.mem_singleton] at hc; subst hc; exact plain_one e h
  | agg cs => exact plain_one e (List.all_eq_true.1 h c hc)
theorem setRow_other (w : World) (g k : Nat) (cs : Array Value) (h : k ≠ g) : (w.setRow g cs).heap[k]? = w.heap[k]? := by
  simp only [World.setRow, Array.getElem?_modify]
  rw [if_neg (by omega)]
/-- An entry under a name that stands already is not seen. -/
theorem PostOp.log {e e' : Env} {h : Nat → Option HO} {nx nx' id : Nat} {v : RV} {a b : HO} {W : List Nat} {w w' : World} (k : PostOp e e' h nx ⟨v, [(id, a)], nx', W⟩ w w') : PostOp e e' h nx ⟨v, [(id, a), (id, b)], nx', W⟩ w w' := by
  have hl : hlook [(id, a), (id, b)] = hlook [(id, a)] := by
    funext i
    simp only [hlook]
    cases Nat.beq id i <;> rfl
  exact ⟨k.agree, k.os, k.tape, k.output, k.size, k.fr, by rw [hl]; exact k.sat, by rw [hl]; exact k.own, by rw [hl]; exact k.foot⟩
theorem opStore_ok {P : Program} {o : Oper} {get : Operand → RV} {hp : Hp} {nx : Nat} {out : Out} {t : TypeId} {x y : Operand} (hwf : WfOp get o hp nx) (ho : o.op = .store t x y) (h : opStore P get hp nx t x y = some out) : OpOk P o get hp nx out := by
  unfold opStore at h
  split at h
  · rename_i id off s hgx hgy
    split at h
    · rename_i cs ty n hl hn
      cases hb : (s.plain && Nat.beq s.cells.length n && Nat.ble (off + n) cs.length) with
      | false => rw [hb] at h; cases h
      | true =>
        rw [hb] at h
        cases h
        simp only [Bool.and_eq_true] at hb
        obtain ⟨⟨hb1, hb2⟩, hb3⟩ := hb
        have hb2 := Nat.eq_of_beq_eq_true hb2
        have hb3 := Nat.le_of_ble_eq_true hb3
        subst hb2
        intro e a w hx hsat K Q hK
        have hx1 := hx x (by rw [ho]; simp [Op.operands])
        have hx2 := hx y (by rw [ho]; simp [Op.operands])
        rw [hgx] at hx1
        rw [hgy] at hx2
        have hc := hsat.holds _ _ hl
        simp only [HO.holds] at hc
        have hrun := run_storeCells_at (P := P) (e.ρ id) off ty (s.cells.map (CV.den e)) 0 _ w hc (by simpa using hb3) (splain_one e hb1)
        have hrow : ((cs.map (CV.den e)).toArray.toList.take (off + 0) ++ s.cells.map (CV.den e) ++ (cs.map (CV.den e)).toArray.toList.drop (off + 0 + (s.cells.map (CV.den e)).length)).toArray = ((stCells cs off s.cells).map (CV.den e)).toArray := by
          simp [stCells, List.map_take, List.map_drop]
        rw [hrow] at hrun
        have hlt := heap_some_lt hc
        refine wp_skipped (w' := w.setRow (e.ρ id) ((stCells cs off s.cells).map (CV.den e)).toArray) ?_ ?_
        · have hx1' : a.eval x = .pointer (some ⟨e.ρ id, off, none⟩) := hx1
          have hx2' : a.eval y = s.den e := hx2
          simp only [execOp, ho, Instr.storeAt, hx1', hx2', Instr.sureAddr, Sem.run_bind, Sem.run_pure, Result.andThen_ok, storeVar]
          rw [SV.cells_den e hb1]
          simp only [sizeP_run hn, Result.andThen_ok, List.size_toArray, List.length_map, ne_eq, not_true_eq_false, if_false]
          rw [hrun]
          rfl
        · refine hK e _ (PostOp.log ⟨fun _ _ => .refl _ _, rfl, rfl, rfl, ?_, ?_, ⟨?_, ?_⟩, ?_, ?_⟩)
          · simp [World.setRow]
          · intro k hk hne
            exact setRow_other _ _ _ _ (fun h' => hne id (by simp) _ hl h')
          · intro id' o' ho'
            obtain ⟨rfl, rfl⟩ := hlook_one ho'
            exact setRow_heap w _ _ _ ty (0, 0) hc
          · intro id1 o1 ho1 id2 o2 ho2 hne
            exact absurd ((hlook_one ho1).1.trans (hlook_one ho2).1.symm) hne
          · intro id' o' b ho' hf
            obtain ⟨rfl, rfl⟩ := hlook_one ho'
            exact .inr ⟨_, by simp, _, hl, hf⟩
          · intro id' o' b ho' hf
            obtain ⟨rfl, rfl⟩ := hlook_one ho'
            exact .inr (.inl ⟨_, by simp, _, hl, hf⟩)
    · cases h
  · cases h
theorem opNilCheck_ok {P : Program} {o : Oper} {get : Operand → RV} {hp : Hp} {nx : Nat} {out : Out} {x : Operand} (ho : o.op = .nilCheck x) (h : opNilCheck get nx x = some out) : OpOk P o get hp nx out := by
  unfold opNilCheck at h
  split at h
  all_goals first | (cases h; done) | skip
  all_goals
    rename_i hg
    cases h
    refine OpOk.val fun e a w hx hs => ?_
    have hx' := hx x (by rw [ho]; simp [Op.operands])
    rw [hg] at hx'
    simp only [execOp, ho, hx', RV.den, SV.den, CV.den]
    rfl
theorem fieldPlace_run {P : Program} {fl : Field} {n : Nat} (h : sizeP P fl.type = some (n + 1)) (a : Addr) (w : World) : (fieldPlace a fl).run P w = .ok (a.add fl.offset) w := by
  simp [fieldPlace, sizeP_run h]
theorem fieldP_spec {P : Program} {t : TypeId} {f : Nat} {fl : Field} (h : fieldP P t f = some fl) : ∃ fs : Array Field, P.underlying t = some (.struct fs) ∧ fs[f]? = some fl := by
  unfold fieldP at h
  split at h
  · rename_i fs hu; exact ⟨fs, hu, h⟩
  · cases h
theorem opFieldAddr_ok {P : Program} {o : Oper} {get : Operand → RV} {hp : Hp} {nx : Nat} {out : Out} {t : TypeId} {x : Operand} {f : Nat} (ho : o.op = .fieldAddr t x f) (h : opFieldAddr P get nx t x f = some out) : OpOk P o get hp nx out := by
  unfold opFieldAddr at h
  split at h
  · rename_i fl hf
    obtain ⟨fs, hu, hfl⟩ := fieldP_spec hf
    split at h
    · rename_i n hn
      split at h
      all_goals first | (cases h; done) | skip
      all_goals
        rename_i hg
        cases h
        refine OpOk.val fun e a w hx hs => ?_
        have hx' := hx x (by rw [ho]; simp [Op.operands])
        rw [hg] at hx'
        simp only [execOp, ho, hx', RV.den, SV.den, CV.den, Instr.fieldAt, Sem.run_bind, run_underlying hu, Result.andThen_ok, hfl, Instr.sureAddr, Sem.run_pure, fieldPlace_run hn, addr_add, Nat.add_assoc]
    · cases h
  · cases h
theorem opField_ok {P : Program} {o : Oper} {get : Operand → RV} {hp : Hp} {nx : Nat} {out : Out} {t : TypeId} {x : Operand} {f : Nat} (ho : o.op = .field t x f) (h : opField P get nx t x f = some out) : OpOk P o get hp nx out := by
  unfold opField at h
  split at h
  · rename_i fl cs hf hg
    obtain ⟨fs, hu, hfl⟩ := fieldP_spec hf
    split at h
    · rename_i s hld
      cases h
      refine OpOk.val fun e a w hx hs => ?_
      have hx' := hx x (by rw [ho]; simp [Op.operands])
      rw [hg] at hx'
      simp only [execOp, ho, hx', RV.den, SV.den, Instr.field, Sem.run_bind, run_underlying hu, Result.andThen_ok, hfl, asAgg, Sem.run_pure]
      rw [ldCells_part w hld]
      rfl
    · cases h
  · cases h
theorem inB_spec {i : Int} {n : Nat} (h : inB i n = true) : 0 ≤ i ∧ i < n := by
  unfold inB at h
  split at h
  · rename_i k; have := Nat.le_of_ble_eq_true h; simp only [Int.ofNat_eq_natCast]; omega
  · cases h
theorem intOfRV_spec {r : RV} {n : Int} (h : intOfRV r = some n) (e : Env) : ∃ k, r.den e = .int k n := by
  unfold intOfRV at h
  split at h
  · cases h; exact ⟨_, rfl⟩
  · cases h
theorem opIndexAddr_ok {P : Program} {o : Oper} {get : Operand → RV} {hp : Hp} {nx : Nat} {out : Out} {t : TypeId} {x i : Operand} (ho : o.op = .indexAddr t x i) (h : opIndexAddr P get nx t x i = some out) : OpOk P o get hp nx out := by
  unfold opIndexAddr at h
  split at h
  · rename_i n len el id off hi hu hg
    split at h
    · rename_i s hs
      cases hb : inB n len with
      | false => rw [hb] at h; cases h
      | true =>
        rw [hb] at h
        cases h
        refine OpOk.val fun e a w hx hsat => ?_
        have hx1 := hx x (by rw [ho]; simp [Op.operands])
        have hx2 := hx i (by rw [ho]; simp [Op.operands])
        obtain ⟨k, hk⟩ := intOfRV_spec hi e
        rw [hg] at hx1
        rw [hk] at hx2
        simp only [execOp, ho, hx1, hx2, RV.den, SV.den, CV.den, Instr.indexAt, asIntOf, Sem.run_bind, run_underlying hu, Result.andThen_ok, Instr.sureAddr, Sem.run_pure]
        simp only [inB_spec hb, and_self, if_true, Sem.run_bind, sizeP_run hs, Result.andThen_ok, Sem.run_pure, addr_add]
    · cases h
  · rename_i n el id off len cap hi hu hg
    split at h
    · rename_i s hs
      cases hb : inB n len with
      | false => rw [hb] at h; cases h
      | true =>
        rw [hb] at h
        cases h
        refine OpOk.val fun e a w hx hsat => ?_
        have hx1 := hx x (by rw [ho]; simp [Op.operands])
        have hx2 := hx i (by rw [ho]; simp [Op.operands])
        obtain ⟨k, hk⟩ := intOfRV_spec hi e
        rw [hg] at hx1
        rw [hk] at hx2
        simp only [execOp, ho, hx1, hx2, RV.den, SV.den, CV.den, Instr.indexAt, asIntOf, Sem.run_bind, run_underlying hu, Result.andThen_ok, Instr.sureAddr, Sem.run_pure]
        simp only [inB_spec hb, and_self, if_true, Sem.run_bind, sizeP_run hs, Result.andThen_ok, Sem.run_pure, addr_add]
    · cases h
  · rename_i n len el id off hi hu hg
    split at h
    · rename_i s hs
      cases hb : inB n len with
      | false => rw [hb] at h; cases h
      | true =>
        rw [hb] at h
        cases h
        refine OpOk.val fun e a w hx hsat => ?_
        have hx1 := hx x (by rw [ho]; simp [Op.operands])
        have hx2 := hx i (by rw [ho]; simp [Op.operands])
        obtain ⟨k, hk⟩ := intOfRV_spec hi e
        rw [hg] at hx1
        rw [hk] at hx2
        simp only [execOp, ho, hx1, hx2, RV.den, SV.den, CV.den, Instr.indexAt, asIntOf, Sem.run_bind, run_underlying hu, Result.andThen_ok, Instr.sureAddr, Sem.run_pure]
        simp only [inB_spec hb, and_self, if_true, Sem.run_bind, sizeP_run hs, Result.andThen_ok, Sem.run_pure, addr_add, Nat.add_assoc]
    · cases h
  · cases h
theorem opIndex_ok {P : Program} {o : Oper} {get : Operand → RV} {hp : Hp} {nx : Nat} {out : Out} {t : TypeId} {x i : Operand} (ho : o.op = .index t x i) (h : opIndex P get nx t x i = some out) : OpOk P o get hp nx out := by
  unfold opIndex at h
  split at h
  · rename_i n len el cs hi hu hg
    split at h
    · rename_i s hs
      cases hb : inB n len with
      | false => rw [hb] at h; cases h
      | true =>
        rw [hb] at h
        simp only [cond_true] at h
        split at h
        · rename_i r hld
          cases h
          refine OpOk.val fun e a w hx hsat => ?_
          have hx1 := hx x (by rw [ho]; simp [Op.operands])
          have hx2 := hx i (by rw [ho]; simp [Op.operands])
          obtain ⟨k, hk⟩ := intOfRV_spec hi e
          rw [hg] at hx1
          rw [hk] at hx2
          simp only [execOp, ho, hx1, hx2, RV.den, SV.den, Instr.index, asIntOf, Sem.run_bind, run_underlying hu, Result.andThen_ok, Sem.run_pure]
          simp only [inB_spec hb, and_self, if_true, Sem.run_bind, sizeP_run hs, Result.andThen_ok]
          rw [ldCells_part w hld]
          rfl
        · cases h
    · cases h
  · cases h
theorem opExtract_ok {P : Program} {o : Oper} {get : Operand → RV} {hp : Hp} {nx : Nat} {out : Out} {x : Operand} {i : Nat} (ho : o.op = .extract x i) (h : opExtract get nx x i = some out) : OpOk P o get hp nx out := by
  unfold opExtract at h
  split at h
  · rename_i l hg
    split at h
    · rename_i s hs
      cases h
      refine OpOk.val fun e a w hx hsat => ?_
      have hx1 := hx x (by rw [ho]; simp [Op.operands])
      rw [hg] at hx1
      have : (l.map (SV.den e)).toArray[i]? = some (s.den e) := by simp [hs]
      simp only [execOp, ho, hx1, RV.den, Instr.extract, this]
      rfl
    · cases h
  · cases h

theorem setMany (cells : Array Value) (off : Nat) (vs : List Value) (h : off + vs.length ≤ cells.size) :
    vs.zipIdx.foldl (fun cs (p : Value × Nat) => cs.setIfInBounds (off + p.2) p.1) cells = (cells.toList.take off ++ vs ++ cells.toList.drop (off + vs.length)).toArray := by
  have key : ∀ (vs : List Value) (k : Nat) (cs : Array Value), off + k + vs.length ≤ cs.size →
      (vs.zipIdx k).foldl (fun cs (p : Value × Nat) => cs.setIfInBounds (off + p.2) p.1) cs = (cs.toList.take (off + k) ++ vs ++ cs.toList.drop (off + k + vs.length)).toArray := by
    intro vs
    induction vs with
    | nil => intro k cs _; simp
    | cons v vs ih =>
      intro k cs hk
      simp only [List.length_cons] at hk
      rw [List.zipIdx_cons, List.foldl_cons, ih (k + 1) _ (by simp; omega)]
      congr 1
      have := list_seg_step cs.toList (off + k) v vs (by simp; omega)
      simp only [Array.toList_setIfInBounds, List.length_cons]
      rw [show off + (k + 1) = off + k + 1 by omega]
      exact this
  have := key vs 0 cells (by omega)
  simpa using this
theorem fill_den (e : Env) {place : Nat → Option (Nat × Nat)} : ∀ (ps : List (Nat × SV)) (cs cs' : List CV), fillCV place cs ps = some cs' →
    Instr.fill place (cs.map (CV.den e)).toArray (ps.map fun p => (p.1, p.2.den e)) = some (cs'.map (CV.den e)).toArray := by
  intro ps
  induction ps with
  | nil => intro cs cs' h; simp only [fillCV, Option.some.injEq] at h; subst h; rfl
  | cons p ps ih =>
    obtain ⟨i, s⟩ := p
    intro cs cs' h
    simp only [fillCV] at h
    split at h
    · cases h
    · rename_i off size hpl
      cases hb : (s.plain && Nat.beq s.cells.length size && Nat.ble (off + size) cs.length) with
      | false => rw [hb] at h; cases h
      | true =>
        rw [hb] at h
        simp only [cond_true] at h
        simp only [Bool.and_eq_true] at hb
        obtain ⟨⟨hb1, hb2⟩, hb3⟩ := hb
        have hb2 := Nat.eq_of_beq_eq_true hb2
        have hb3 := Nat.le_of_ble_eq_true hb3
        have := ih _ _ h
        simp only [List.map_cons, Instr.fill, hpl, SV.cells_den e hb1]
        rw [if_neg (by simp; omega)]
        rw [← this]
        congr 1
        have h1 := setMany (cs.map (CV.den e)).toArray off (s.cells.map (CV.den e)) (by simp; omega)
        rw [← Array.foldl_toList]
        simp only [Array.toList_zipIdx]
        rw [show (fun (cs : Array Value) (x : Value × Nat) => match x with | (c, j) => cs.setIfInBounds (off + j) c) = (fun cs (p : Value × Nat) => cs.setIfInBounds (off + p.2) p.1) from rfl]
        rw [h1]
        simp [stCells, List.map_take, List.map_drop]
theorem partsSV_spec {get : Operand → RV} {ρ : Operand → Value} {e : Env} : ∀ (l : List (Nat × Operand)) (ps : List (Nat × SV)), partsSV get l = some ps → (∀ p ∈ l, ρ p.2 = (get p.2).den e) →
    l.map (fun p => (p.1, ρ p.2)) = ps.map (fun p => (p.1, p.2.den e)) := by
  intro l
  induction l with
  | nil => intro ps h _; simp only [partsSV, Option.some.injEq] at h; subst h; rfl
  | cons p l ih =>
    obtain ⟨i, x⟩ := p
    intro ps h hx
    simp only [partsSV] at h
    split at h
    · rename_i s l' hg hl'
      cases h
      have h0 := hx (i, x) (by simp)
      simp only at h0
      rw [List.map_cons, List.map_cons, ih _ hl' fun p hp => hx p (by simp [hp])]
      simp only [h0, hg, RV.den]
    · cases h
theorem opBuild_ok {P : Program} {o : Oper} {get : Operand → RV} {hp : Hp} {nx : Nat} {out : Out} {t : TypeId} {parts : Array (Nat × Operand)} (ho : o.op = .build t parts) (h : opBuild P get nx t parts = some out) : OpOk P o get hp nx out := by
  unfold opBuild at h
  split at h
  · rename_i z place ps hz hpl hps
    split at h
    · rename_i cs hcs
      cases h
      refine OpOk.val fun e a w hx hsat => ?_
      obtain ⟨it, hit, hzz⟩ := Option.bind_eq_some_iff.1 hz
      have hp' := partsSV_spec (ρ := a.eval) (e := e) parts.toList ps hps (fun p hp => hx p.2 (by rw [ho]; simp only [Op.operands]; exact List.mem_toArray.2 (List.mem_map.2 ⟨p, hp, rfl⟩)))
      have hfill := fill_den e ps _ _ hcs
      rw [← hp'] at hfill
      simp only [List.map_map, Function.comp_def, CV.den, List.map_id', Array.toArray_toList] at hfill
      have hb : P.built t (parts.map fun p => (p.1, a.eval p.2)).toList = some (cs.map (CV.den e)).toArray := by
        unfold Program.built
        rw [hit]
        unfold placesP at hpl
        split at hpl
        · rename_i n el hu
          split at hpl
          · rename_i ie hie
            cases hpl
            simp only [hu, hzz, hie]
            simpa using hfill
          · cases hpl
        · rename_i fields hu
          split at hpl
          · rename_i places hpp
            cases hpl
            simp only [hu, hzz, hpp]
            simpa using hfill
          · cases hpl
        · cases hpl
      simp only [execOp, ho, Sem.run_bind]
      rw [show (Array.map (fun x : Nat × Operand => match x with | (i, x) => (i, a.eval x)) parts) = (parts.map fun p => (p.1, a.eval p.2)) from rfl]
      rw [run_build w t _ _ hb]
      rfl
    · cases h
  · cases h
theorem range_map_cells (z : Array Value) (n s : Nat) (hs : 0 < s) (hz : z.size = s) :
    ((Array.range n).map fun i => z[i % z.size]!) = ((((List.range n).map fun j => CV.val true (z.getD (j % s) undef)).map (CV.den env0)).toArray) := by
  apply Array.ext'
  simp only [Array.toList_map, Array.toList_range, List.map_map]
  apply List.map_congr_left
  intro i _
  have : i % s < z.size := by rw [hz]; exact Nat.mod_lt _ hs
  simp only [Function.comp_def, CV.den, hz]
  rw [getElem!_pos z _ this]
  simp [Array.getElem?_eq_getElem this]
theorem opBuildSlice_ok {P : Program} {o : Oper} {get : Operand → RV} {hp : Hp} {nx : Nat} {out : Out} {t : TypeId} {len : Nat} {parts : Array (Nat × Operand)} (hwf : WfOp get o hp nx) (hcsid : ∀ cs ty, hlook out.up nx = some (.cells cs ty) → ∀ i ∈ cs.flatMap CV.ids, i < nx) (ho : o.op = .buildSlice t len parts) (h : opBuildSlice P get nx t len parts = some out) : OpOk P o get hp nx out := by
  unfold opBuildSlice at h
  split at h
  · rename_i el hu
    split at h
    · rename_i s z ps hs hz hps
      cases hb : (Nat.ble (len * s) 4096 && Nat.blt 0 s && Nat.beq z.cells.size s) with
      | false => rw [hb] at h; cases h
      | true =>
        rw [hb] at h
        simp only [cond_true] at h
        split at h
        · rename_i cs hcs
          cases h
          simp only [Bool.and_eq_true] at hb
          obtain ⟨⟨hb1, hb2⟩, hb3⟩ := hb
          have hb1 := Nat.le_of_ble_eq_true hb1
          have hb2 := Nat.le_of_ble_eq_true hb2
          have hb3 := Nat.eq_of_beq_eq_true hb3
          obtain ⟨it, hit, hzz⟩ := Option.bind_eq_some_iff.1 hz
          intro e a w hx hsat K Q hK
          have hp' := partsSV_spec (ρ := a.eval) (e := e) parts.toList ps hps (fun p hp => hx p.2 (by rw [ho]; simp only [Op.operands]; exact List.mem_toArray.2 (List.mem_map.2 ⟨p, hp, rfl⟩)))
          have hfill := fill_den e ps _ _ hcs
          rw [← hp'] at hfill
          refine wp_value (w' := w.alloc (.cells (cs.map (CV.den e)).toArray el)) (v := .slice (some ⟨w.heap.size, 0, none⟩) len len) ?_ ?_
          · simp only [execOp, ho, Instr.buildSlice, Sem.run_bind, run_underlying hu, Result.andThen_ok, sizeP_run hs]
            have hzrun : (zeroValue el).run P w = .ok z w := by simp [zeroValue, typeInfo, hit, hzz]
            have e1 : ((List.range (len * s)).map fun j => CV.val true (z.cells.getD (j % s) undef)).map (CV.den e) = ((List.range (len * s)).map fun j => CV.val true (z.cells.getD (j % s) undef)).map (CV.den env0) := by simp [Function.comp_def, CV.den]
            rw [e1, ← range_map_cells z.cells (len * s) s hb2 hb3] at hfill
            rw [if_neg (by simp; omega)]
            have hps2 : (Array.map (fun x : Nat × Operand => match x with | (i, x) => (i, a.eval x)) parts).toList = parts.toList.map (fun p => (p.1, a.eval p.2)) := by simp
            by_cases h0 : len * s = 0
            · simp only [h0, if_true, Sem.run_bind, Sem.run_pure, Result.andThen_ok]
              rw [h0] at hfill
              rw [show (Array.map (fun i => z.cells[i % z.cells.size]!) (Array.range 0)) = #[] from by apply Array.ext'; simp] at hfill
              rw [show (Array.map (fun x => (#[] : Array Value)[x % Array.size #[]]!) (Array.range 0)) = #[] from by apply Array.ext'; simp]
              simp only [hps2, hfill]
              rfl
            · simp only [h0, if_false, Sem.run_bind, hzrun, Sem.run_pure, Result.andThen_ok]
              simp only [hps2, hfill]
              rfl
          · have := hK _ _ (PostOp.new (e := e) (hp := hp) (nx := nx) (w := w) (v := .sv (.one (.sl nx 0 len len))) (cs := cs) (t := el) (hcsid cs el (by simp [hlook])))
            simpa [RV.den, SV.den, CV.den, Env.set] using this
        · cases h
    · cases h
  · cases h
theorem capsOf_spec {get : Operand → RV} {ρ : Operand → Value} {e : Env} : ∀ (l : List Operand) (cs : List (Nat × Nat)), capsOf get l = some cs → (∀ x ∈ l, ρ x = (get x).den e) → l.map ρ = cs.map e.ptr := by
  intro l
  induction l with
  | nil => intro cs h _; simp only [capsOf, Option.some.injEq] at h; subst h; rfl
  | cons x l ih =>
    intro cs h hx
    simp only [capsOf] at h
    split at h
    · rename_i id off l' hg hl'
      cases h
      have h0 := hx x (by simp)
      rw [List.map_cons, List.map_cons, ih _ hl' fun p hp => hx p (by simp [hp]), h0, hg]
      rfl
    · cases h
theorem bmOf_spec (e : Env) : ∀ {cs : List CV} {l : List (BV)}, bmOf cs = some l → l.map (bmDen e) = cs.map (CV.den e) := by
  intro cs
  induction cs with
  | nil => intro l h; cases h; rfl
  | cons c r ih =>
    intro l h
    unfold bmOf at h
    split at h
    · cases ‹_ :: _ = []›
    · rename_i k v r' hc
      cases hc
      split at h
      · rename_i l' hl'
        cases h
        simp [bmDen, CV.den, ih hl']
      · cases h
    · rename_i id r' hc
      cases hc
      split at h
      · rename_i l' hl'
        cases h
        simp [bmDen, CV.den, ih hl']
      · cases h
    · rename_i id off len cap r' hc
      cases hc
      split at h
      · rename_i l' hl'
        cases h
        simp [bmDen, CV.den, ih hl']
      · cases h
    · cases h
theorem opMakeFunc_ok {P : Program} {o : Oper} {get : Operand → RV} {hp : Hp} {nx : Nat} {out : Out} {fn : Fn} {first caps : Array Operand} (ho : o.op = .makeFunc fn first caps) (h : opMakeFunc get nx fn first caps = some out) : OpOk P o get hp nx out := by
  unfold opMakeFunc at h
  split at h
  · rename_i f l hf hl
    cases h
    refine OpOk.val fun e a w hx hsat => ?_
    have h1 : first = #[] := by
      apply Array.ext'; simpa using hf
    have h2 := capsOf_spec (ρ := a.eval) (e := e) caps.toList l hl (fun x hx' => hx x (by rw [ho]; simp only [Op.operands, h1]; simpa using hx'))
    have h3 : caps.map a.eval = (l.map e.ptr).toArray := by apply Array.ext'; simpa using h2
    simp only [execOp, ho, Instr.makeFunc, h1, h3, Array.map_empty]
    rfl
  · rename_i f x hf hl
    split at h
    · rename_i cs hget
      split at h
      · rename_i l hbm
        cases h
        refine OpOk.val fun e a w hx hsat => ?_
        have h1 : first = #[x] := by
          apply Array.ext'; simpa using hf
        have h2 := capsOf_spec (ρ := a.eval) (e := e) caps.toList [] hl (fun x' hx' => hx x' (by rw [ho]; simp only [Op.operands, h1]; simp; exact .inr (by simpa using hx')))
        have h3 : caps.map a.eval = #[] := by apply Array.ext'; simpa using h2
        have h4 : a.eval x = .agg (cs.map (CV.den e)).toArray := by
          rw [hx x (by rw [ho]; simp [Op.operands, h1]), hget]; rfl
        simp only [execOp, ho, Instr.makeFunc, h1, h3, List.map_toArray, List.map_cons, List.map_nil, h4, ← bmOf_spec e hbm]
        rfl
      · cases h
    · cases h
  · cases h
theorem cvs_den0 {cs : List CV} (h : cs.all (fun c => c.ids.isEmpty) = true) (e : Env) : cs.map (CV.den e) = cs.map (CV.den env0) :=
  List.map_congr_left fun c hc => (c.den_same fun id hi => by
    have := List.all_eq_true.1 h c hc
    simp only [List.isEmpty_iff] at this
    rw [this] at hi; cases hi)
theorem opBin_ok {P : Program} {o : Oper} {get : Operand → RV} {hp : Hp} {nx : Nat} {out : Out} {op : BinOp} {t yt : TypeId} {x y : Operand} (ho : o.op = .binOp op t x y yt) (h : opBin P o get nx op t x y = some out) : OpOk P o get hp nx out := by
  unfold opBin at h
  split at h
  · rename_i xs ys hgx hgy
    cases hb : (xs.all (fun c => c.ids.isEmpty) && ys.all (fun c => c.ids.isEmpty) && !P.eqGuardType P.depth t) with
    | false => rw [hb] at h; cases h
    | true =>
      rw [hb] at h
      simp only [cond_true] at h
      simp only [Bool.and_eq_true, Bool.not_eq_true'] at hb
      obtain ⟨⟨hb1, hb2⟩, hb3⟩ := hb
      have main : ∀ b, eqSym P 64 t ((SV.agg xs).den env0) ((SV.agg ys).den env0) = some b → ∀ (e : Env) (a : Act) (w : World), (∀ x ∈ o.op.operands, a.eval x = (get x).den e) →
          (Op.equalIn 10000 t (.agg (xs.map (CV.den env0)).toArray) (.agg (ys.map (CV.den env0)).toArray)).run P w = .ok b w ∧ a.eval x = .agg (xs.map (CV.den env0)).toArray ∧ a.eval y = .agg (ys.map (CV.den env0)).toArray := by
        intro b hb e a w hx
        have hx1 := hx x (by rw [ho]; simp [Op.operands])
        have hx2 := hx y (by rw [ho]; simp [Op.operands])
        rw [hgx] at hx1
        rw [hgy] at hx2
        simp only [RV.den, SV.den] at hx1 hx2
        rw [cvs_den0 hb1] at hx1
        rw [cvs_den0 hb2] at hx2
        exact ⟨(eq_ok P 64).1 t _ _ b hb 10000 (by omega) w, hx1, hx2⟩
      split at h
      · rename_i b hbb
        cases h
        refine OpOk.val fun e a w hx hsat => ?_
        obtain ⟨h1, h2, h3⟩ := main b hbb e a w hx
        simp only [execOp, ho, h2, h3, Sem.run_bind, run_eqGuard_agg w _ t x y _ _ hb3, Result.andThen_ok, run_eql_struct, h1, Sem.run_pure]
        rfl
      · rename_i b hbb
        cases h
        refine OpOk.val fun e a w hx hsat => ?_
        obtain ⟨h1, h2, h3⟩ := main b hbb e a w hx
        simp only [execOp, ho, h2, h3, Sem.run_bind, run_eqGuard_agg w _ t x y _ _ hb3, Result.andThen_ok, run_neq_struct, h1, Sem.run_pure]
        rfl
      · cases h
  · exact pureOp_ok (by rw [ho]; intro cs b hh; cases hh) h

theorem HO.ext_len {e : Env} {w : World} {id : Nat} {o : HO} {p : List Sh × List (List Ct)} (h : o.holds e w id) (hl : o.ls = some p) : ∃ a cap, e.slv id = .slice a p.2.length cap := by
  cases o with
  | cells _ _ => cases hl
  | grid sh l => cases hl; obtain ⟨⟨d, a, cap, hv, _⟩, _⟩ := h; exact ⟨a, cap, hv⟩
  | row sh t l =>
    cases hl
    obtain ⟨⟨d, xs, ho, _⟩, _⟩ := h
    rcases ho.2 with ⟨hv, hn⟩ | ⟨g, cap, cur, hv, _⟩
    · exact ⟨none, 0, by rw [hv, hn]⟩
    · exact ⟨_, cap, hv⟩
  | elem _ _ _ => cases hl
  | gone => cases hl
theorem opLen_ok {P : Program} {o : Oper} {get : Operand → RV} {hp : Hp} {nx : Nat} {out : Out} {t : TypeId} {x : Operand} {c : Call} (ho : o.op = .call c) (hc : c.callee = .builtin .len) (ha : c.args.toList = [x]) (hat : c.argTypes.toList = [t]) (h : opLen P o get hp nx t x = some out) : OpOk P o get hp nx out := by
  have ha' : c.args = #[x] := by apply Array.ext'; simpa using ha
  have hat' : c.argTypes = #[t] := by apply Array.ext'; simpa using hat
  have hmem : x ∈ o.op.operands := by rw [ho]; simp [Op.operands, Call.operands, ha']
  unfold opLen at h
  split at h
  · rename_i id off len cap hg
    split at h
    · rename_i el hu
      cases h
      refine OpOk.val fun e a w hx hsat => ?_
      have hx1 := hx x hmem
      rw [hg] at hx1
      have hx1' : a.eval x = .slice (some ⟨e.ρ id, off, none⟩) len cap := hx1
      have hrun : (Builtin.len_ #[t] o.type #[Value.slice (some ⟨e.ρ id, off, none⟩) len cap]).run P w = .ok (.int .i64 len) w := by simp [Builtin.len_, run_underlying hu, goInt]
      simp only [execOp, ho, resolve, hc, ha', hat', List.map_toArray, List.map_cons, List.map_nil, hx1', Sem.run_bind, Sem.run_pure, Result.andThen_ok, invoke, builtin, hrun]
      rfl
    · cases h
  · rename_i id hg
    split at h
    · rename_i el p hu hl
      cases h
      refine OpOk.val fun e a w hx hsat => ?_
      have hx1 := hx x hmem
      rw [hg] at hx1
      obtain ⟨ob, hob, hls⟩ := Option.bind_eq_some_iff.1 hl
      obtain ⟨a', cap, hv⟩ := HO.ext_len (hsat.holds _ _ hob) hls
      have hx1' : a.eval x = .slice a' p.2.length cap := by rw [hx1]; exact hv
      have hrun : (Builtin.len_ #[t] o.type #[Value.slice a' p.2.length cap]).run P w = .ok (.int .i64 p.2.length) w := by simp [Builtin.len_, run_underlying hu, goInt]
      simp only [execOp, ho, resolve, hc, ha', hat', List.map_toArray, List.map_cons, List.map_nil, hx1', Sem.run_bind, Sem.run_pure, Result.andThen_ok, invoke, builtin, hrun]
      rfl
    · cases h
  · exact pureOp_ok (by rw [ho]; intro cs b hh; cases hh) h
theorem opPick_ok {P : Program} {o : Oper} {get : Operand → RV} {hp : Hp} {nx : Nat} {out : Out} {c x y : Operand} (ho : o.op = .pick c x y) (h : opPick get nx c x y = some out) : OpOk P o get hp nx out := by
  unfold opPick at h
  split at h
  · rename_i k d hg
    cases h
    refine OpOk.val fun e a w hx hs => ?_
    have h1 := hx c (by rw [ho]; simp [Op.operands])
    have h2 := hx x (by rw [ho]; simp [Op.operands])
    have h3 := hx y (by rw [ho]; simp [Op.operands])
    rw [hg] at h1
    simp only [execOp, ho, h1, RV.den, SV.den, CV.den, asBool, Sem.run_bind, Sem.run_pure, Result.andThen_ok]
    cases d
    · simp only [Bool.false_eq_true, if_false, h3, cond_false]; rfl
    · simp only [if_true, h2, cond_true]; rfl
  · cases h
theorem simple_ok {P : Program} {o : Oper} {get : Operand → RV} {hp : Hp} {nx : Nat} {out : Out} (hwf : WfOp get o hp nx) (hup : ∀ id ob, hlook out.up id = some ob → ∀ i ∈ ob.ids, i < nx) (h : simple P o get hp nx = some out) : OpOk P o get hp nx out := by
  unfold simple at h
  split at h
  · exact opMove_ok (.inl ‹_›) h
  · exact opMove_ok (.inr ‹_›) h
  · exact opPick_ok ‹_› h
  · exact opAlloc_ok ‹_› h
  · exact opBox_ok hwf ‹_› h
  · exact opLoad_ok ‹_› h
  · exact opStore_ok hwf ‹_› h
  · exact opNilCheck_ok ‹_› h
  · exact opFieldAddr_ok ‹_› h
  · exact opField_ok ‹_› h
  · exact opIndexAddr_ok ‹_› h
  · exact opIndex_ok ‹_› h
  · exact opExtract_ok ‹_› h
  · exact opBuild_ok ‹_› h
  · exact opBuildSlice_ok hwf (fun cs ty hl i hi => hup _ _ hl i hi) ‹_› h
  · exact opMakeFunc_ok ‹_› h
  · exact opBin_ok ‹_› h
  · rename_i ho; exact pureOp_ok (by rw [ho]; intro cs b hh; cases hh) h
  · rename_i ho; exact pureOp_ok (by rw [ho]; intro cs b hh; cases hh) h
  · rename_i c ho
    split at h
    · exact opLen_ok ho ‹_› ‹_› ‹_› h
    · exact pureOp_ok (by rw [ho]; intro cs b hh; cases hh) h
    · exact pureOp_ok (by rw [ho]; intro cs b hh; cases hh) h
    · cases h
  · cases h
end Go.Proofs.Ythgneojhhocflaa
