/- A symbolic way through the code of a call: what its slots and the blocks of its own hold, block by block, under names that stay the same whatever numbers the blocks get. Here: the words, and what they mean in a world. No condition. -/
import Derived.Test.YtaikocplcblnkabBase
set_option linter.unusedVariables false
namespace Go.Proofs.Ytaikocplcblnkab
open Go.RowKit

/-- One cell's content. 'val k v': the value v (k: it is written out whole). 'ptr', 'sl': into the block named id of one's own; 'rptr': into a row that came in; 'ext': a slice that came in; 'fn': a function with captured variables. -/
inductive CV where
  | val (known : Bool) (v : Value)
  | ptr (id off : Nat)
  | rptr (id off : Nat)
  | sl (id off len cap : Nat)
  | ext (id : Nat)
  | fn (f : FuncId) (caps : List (Nat × Nat))
inductive SV where
  | one (c : CV)
  | agg (cs : List CV)
inductive RV where
  | sv (s : SV)
  | tup (l : List SV)

/-- Which block, which slice a name stands for. -/
structure Env where
  ρ : Nat → Nat
  σ : Nat → Option Addr × Nat × Nat
def Env.off (e : Env) (id : Nat) : Nat := match (e.σ id).1 with | some a => a.off | none => 0
def Env.ptr (e : Env) (p : Nat × Nat) : Value := .pointer (some ⟨e.ρ p.1, p.2, none⟩)
def CV.den (e : Env) : CV → Value
  | .val _ v => v
  | .ptr id off => .pointer (some ⟨e.ρ id, off, none⟩)
  | .rptr id off => .pointer (some ⟨e.ρ id, e.off id + off, none⟩)
  | .sl id off len cap => .slice (some ⟨e.ρ id, off, none⟩) len cap
  | .ext id => .slice (e.σ id).1 (e.σ id).2.1 (e.σ id).2.2
  | .fn f caps => .func (.func f) #[] (caps.map e.ptr).toArray
def SV.den (e : Env) : SV → Value
  | .one c => c.den e
  | .agg cs => .agg (cs.map (CV.den e)).toArray
def SV.cells : SV → List CV
  | .one c => [c]
  | .agg cs => cs
def RV.den (e : Env) : RV → Value
  | .sv s => s.den e
  | .tup l => .tuple (l.map (SV.den e)).toArray
def CV.ids : CV → List Nat
  | .val _ _ => []
  | .ptr id _ => [id]
  | .rptr id _ => [id]
  | .sl id _ _ _ => [id]
  | .ext id => [id]
  | .fn _ caps => caps.map (·.1)
def SV.ids : SV → List Nat
  | .one c => c.ids
  | .agg cs => cs.flatMap CV.ids
def RV.ids : RV → List Nat
  | .sv s => s.ids
  | .tup l => l.flatMap SV.ids
def RV.und : RV := .sv (.one (.val true undef))
def SV.ofVal (k : Bool) : Value → SV
  | .agg cs => .agg (cs.toList.map (CV.val k))
  | v => .one (.val k v)
def RV.ofVal (k : Bool) : Value → RV
  | .tuple vs => .tup (vs.toList.map (SV.ofVal k))
  | v => .sv (SV.ofVal k v)
def CV.known : CV → Bool
  | .val k _ => k
  | _ => false
def SV.known : SV → Bool
  | .one c => c.known
  | .agg cs => cs.all CV.known
def RV.known : RV → Bool
  | .sv s => s.known
  | .tup l => l.all SV.known
/-- One cell indeed. -/
def CV.plain : CV → Bool
  | .val _ (.agg _) => false
  | .val _ (.tuple _) => false
  | _ => true
def SV.plain : SV → Bool
  | .one c => c.plain
  | .agg cs => cs.all CV.plain

/-- What lies under a name: cells of one's own; cells that came in; a slice that came in, read by rows and columns. -/
inductive HO where
  | cells (cs : List CV) (t : TypeId)
  | ro (cs : List CV)
  | grid (ks : List IntKind) (n : Nat) (z : Nat → Nat → Int)
abbrev Hp := List (Nat × HO)
def HO.isCells : HO → Bool
  | .cells _ _ => true
  | _ => false
def HO.ids : HO → List Nat
  | .cells cs _ => cs.flatMap CV.ids
  | .ro cs => cs.flatMap CV.ids
  | .grid _ _ _ => []
def hlook : Hp → Nat → Option HO
  | [], _ => none
  | (i, o) :: r, id => bif Nat.beq i id then some o else hlook r id
def HO.holds (e : Env) (w : World) (id : Nat) : HO → Prop
  | .cells cs t => w.heap[e.ρ id]? = some (.cells (cs.map (CV.den e)).toArray t (0, 0))
  | .ro cs => ∀ (j : Nat) c, cs[j]? = some c → w.cell? ⟨e.ρ id, e.off id + j, none⟩ = some (c.den e)
  | .grid ks n z => Grid ks w (.slice (e.σ id).1 (e.σ id).2.1 (e.σ id).2.2) n z ∧ 0 < ks.length
/-- The blocks on which it hangs. -/
def HO.foot (e : Env) (id : Nat) (b : Nat) : HO → Prop
  | .cells _ _ => b = e.ρ id
  | .ro cs => cs ≠ [] ∧ b = e.ρ id
  | .grid _ n _ => 0 < n ∧ ∃ a, (e.σ id).1 = some a ∧ b = a.block
structure Sat (e : Env) (h : Nat → Option HO) (w : World) : Prop where
  holds : ∀ id o, h id = some o → o.holds e w id
  apart : ∀ id cs t, h id = some (.cells cs t) → ∀ id' o', h id' = some o' → id ≠ id' → ¬ o'.foot e id' (e.ρ id)
def Env.same (e e' : Env) (id : Nat) : Prop := e'.ρ id = e.ρ id ∧ e'.σ id = e.σ id
theorem Env.same.off {e e' : Env} {id : Nat} (h : e.same e' id) : e'.off id = e.off id := by unfold Env.off; rw [h.2]

theorem CV.den_same {e e' : Env} (c : CV) (h : ∀ id ∈ c.ids, e.same e' id) : c.den e' = c.den e := by
  cases c with
  | val k v => rfl
  | ptr id off => have := (h id (by simp [CV.ids])).1; simp [CV.den, this]
  | rptr id off => have k := h id (by simp [CV.ids]); have k1 := k.1; have k2 := k.off; simp [CV.den, k1, k2]
  | sl id off len cap => have := (h id (by simp [CV.ids])).1; simp [CV.den, this]
  | ext id => have := (h id (by simp [CV.ids])).2; simp [CV.den, this]
  | fn f caps =>
    simp only [CV.den, Value.func.injEq, true_and]
    congr 1
    refine List.map_congr_left fun p hp => ?_
    have := (h p.1 (by simp only [CV.ids, List.mem_map]; exact ⟨p, hp, rfl⟩)).1
    simp [Env.ptr, this]
theorem cvs_den_same {e e' : Env} (cs : List CV) (h : ∀ id ∈ cs.flatMap CV.ids, e.same e' id) : cs.map (CV.den e') = cs.map (CV.den e) :=
  List.map_congr_left fun c hc => c.den_same fun id hi => h id (List.mem_flatMap.2 ⟨c, hc, hi⟩)
theorem SV.den_same {e e' : Env} (s : SV) (h : ∀ id ∈ s.ids, e.same e' id) : s.den e' = s.den e := by
  cases s with
  | one c => exact c.den_same h
  | agg cs => simp only [SV.den]; rw [cvs_den_same cs h]
theorem RV.den_same {e e' : Env} (r : RV) (h : ∀ id ∈ r.ids, e.same e' id) : r.den e' = r.den e := by
  cases r with
  | sv s => exact s.den_same h
  | tup l =>
    simp only [RV.den]
    rw [List.map_congr_left fun s hs => s.den_same fun id hi => h id (List.mem_flatMap.2 ⟨s, hs, hi⟩)]

theorem SV.den_ofVal (e : Env) (k : Bool) (v : Value) : (SV.ofVal k v).den e = v := by
  cases v <;> simp [SV.ofVal, SV.den, CV.den, Function.comp_def]
theorem RV.den_ofVal (e : Env) (k : Bool) (v : Value) : (RV.ofVal k v).den e = v := by
  cases v <;> simp [RV.ofVal, RV.den, SV.den_ofVal, Function.comp_def]
theorem SV.ids_ofVal (k : Bool) (v : Value) : (SV.ofVal k v).ids = [] := by
  cases v <;> simp [SV.ofVal, SV.ids, CV.ids]
theorem RV.ids_ofVal (k : Bool) (v : Value) : (RV.ofVal k v).ids = [] := by
  cases v <;> simp [RV.ofVal, RV.ids, SV.ids_ofVal]
theorem CV.cells_den (e : Env) {c : CV} (h : c.plain = true) : (c.den e).cells = #[c.den e] := by
  cases c with
  | val k v => cases v <;> simp_all [CV.plain, CV.den, Value.cells]
  | _ => rfl
theorem SV.cells_den (e : Env) {s : SV} (h : s.plain = true) : (s.den e).cells = (s.cells.map (CV.den e)).toArray := by
  cases s with
  | one c => simp only [SV.den, SV.cells, List.map_cons, List.map_nil]; exact CV.cells_den e h
  | agg cs => rfl

theorem heap_some_lt {w : World} {n : Nat} {o : Obj} (h : w.heap[n]? = some o) : n < w.heap.size := by
  rcases Nat.lt_or_ge n w.heap.size with h' | h'
  · exact h'
  · rw [Array.getElem?_eq_none h'] at h; cases h
/-- What it hangs on is there. -/
theorem HO.foot_lt {e : Env} {w : World} {id b : Nat} {o : HO} (h : o.holds e w id) (hf : o.foot e id b) : b < w.heap.size := by
  cases o with
  | cells cs t => rw [show b = e.ρ id from hf]; exact heap_some_lt h
  | ro cs =>
    obtain ⟨hne, rfl⟩ := hf
    obtain ⟨c, cs', rfl⟩ := List.exists_cons_of_ne_nil hne
    exact World.block_lt_of_cell? _ _ (h 0 c rfl)
  | grid ks n z =>
    obtain ⟨hn, a, ha, rfl⟩ := hf
    obtain ⟨⟨a', cap, hv, _, _, _, _, hc⟩, hks⟩ := h
    obtain ⟨b, off, hb, hj⟩ := hc 0 hn
    simp only [Value.slice.injEq] at hv
    rw [hv.1, hb] at ha
    cases ha
    obtain ⟨k, hk⟩ : ∃ k, ks[0]? = some k := ⟨ks[0], by simp [hks]⟩
    exact World.block_lt_of_cell? w ⟨b, off + 0 * ks.length + 0, none⟩ (hj 0 k hk).1
theorem cell_of_heap {w w' : World} {a : Addr} (h : w'.heap[a.block]? = w.heap[a.block]?) : w'.cell? a = w.cell? a := by
  unfold World.cell?; rw [h]
/-- It goes on where the blocks on which it hangs are left as they were. -/
theorem HO.holds_next {e e' : Env} {w w' : World} {id : Nat} {o : HO} (h : o.holds e w id) (hid : e.same e' id) (hids : ∀ i ∈ o.ids, e.same e' i)
    (hb : ∀ b, o.foot e id b → w'.heap[b]? = w.heap[b]?) : o.holds e' w' id := by
  cases o with
  | cells cs t =>
    simp only [HO.holds] at h ⊢
    rw [hid.1, cvs_den_same cs hids, hb _ rfl]; exact h
  | ro cs =>
    intro j c hj
    have hne : cs ≠ [] := by intro h'; rw [h'] at hj; simp at hj
    have := h j c hj
    rw [hid.1, hid.off, c.den_same fun i hi => hids i (List.mem_flatMap.2 ⟨c, List.mem_of_getElem? hj, hi⟩), cell_of_heap (w := w) (hb _ ⟨hne, rfl⟩)]
    exact this
  | grid ks n z =>
    obtain ⟨⟨a, cap, hv, hn, h0, h1, h2, hc⟩, hks⟩ := h
    refine ⟨⟨a, cap, by rw [hid.2]; exact hv, hn, h0, h1, h2, fun i hi => ?_⟩, hks⟩
    obtain ⟨b, off, ha, hj⟩ := hc i hi
    refine ⟨b, off, ha, fun j k hk => ⟨?_, (hj j k hk).2⟩⟩
    simp only [Value.slice.injEq] at hv
    rw [cell_of_heap (w := w) (a := ⟨b, off + i * ks.length + j, none⟩) (hb b ⟨by omega, ⟨b, off, none⟩, by rw [hv.1, ha], rfl⟩)]
    exact (hj j k hk).1
theorem HO.foot_same {e e' : Env} {id b : Nat} {o : HO} (hid : e.same e' id) : o.foot e' id b ↔ o.foot e id b := by
  cases o <;> simp [HO.foot, hid.1, hid.2]

theorem hlook_append (l l' : Hp) (id : Nat) : hlook (l ++ l') id = (match hlook l id with | some o => some o | none => hlook l' id) := by
  induction l with
  | nil => rfl
  | cons p l ih =>
    obtain ⟨i, o⟩ := p
    simp only [List.cons_append, hlook]
    cases Nat.beq i id <;> simp [ih]
theorem hlook_mem {l : Hp} {id : Nat} {o : HO} (h : hlook l id = some o) : (id, o) ∈ l := by
  induction l with
  | nil => simp [hlook] at h
  | cons p l ih =>
    obtain ⟨i, o'⟩ := p
    simp only [hlook] at h
    cases hb : Nat.beq i id with
    | true =>
      rw [hb] at h
      simp only [cond_true, Option.some.injEq] at h
      rw [Nat.eq_of_beq_eq_true hb, h]; exact List.mem_cons_self
    | false => rw [hb] at h; exact List.mem_cons_of_mem _ (ih h)
theorem hlook_of_mem {l : Hp} {id : Nat} {o : HO} (h : (id, o) ∈ l) : ∃ o', hlook l id = some o' := by
  induction l with
  | nil => cases h
  | cons p l ih =>
    obtain ⟨i, o'⟩ := p
    simp only [hlook]
    cases hb : Nat.beq i id with
    | true => exact ⟨o', rfl⟩
    | false =>
      rcases List.mem_cons.1 h with h' | h'
      · cases h'; rw [Nat.beq_refl] at hb; cases hb
      · exact ih h'

/-- The part of a heap under some names. -/
def restrict (hp : Hp) : List Nat → Hp
  | [] => []
  | id :: r => match hlook hp id with
    | some o => (id, o) :: restrict hp r
    | none => restrict hp r
theorem hlook_restrict {hp : Hp} {R : List Nat} {id : Nat} {o : HO} (h : hlook (restrict hp R) id = some o) : id ∈ R ∧ hlook hp id = some o := by
  induction R with
  | nil => simp [restrict, hlook] at h
  | cons i R ih =>
    simp only [restrict] at h
    split at h
    · rename_i o' ho
      simp only [hlook] at h
      cases hb : Nat.beq i id with
      | true =>
        rw [hb] at h
        simp only [cond_true, Option.some.injEq] at h
        subst h
        rw [← Nat.eq_of_beq_eq_true hb]
        exact ⟨List.mem_cons_self, ho⟩
      | false => rw [hb] at h; exact ⟨List.mem_cons_of_mem _ (ih h).1, (ih h).2⟩
    · exact ⟨List.mem_cons_of_mem _ (ih h).1, (ih h).2⟩
def reach (hp : Hp) : Nat → List Nat → List Nat → List Nat
  | 0, _, seen => seen
  | _ + 1, [], seen => seen
  | n + 1, id :: rest, seen =>
    bif seen.any (Nat.beq id) then reach hp n rest seen else
    match hlook hp id with
    | some o => reach hp n (o.ids ++ rest) (id :: seen)
    | none => reach hp n rest seen

/-- A piece of the model that touches no memory. -/
def symPure {α : Type} (P : Program) : Sem α → Option α
  | .pure a => some a
  | .program k => symPure P (k P)
  | .mark _ k => symPure P k
  | _ => none
theorem symPure_run {α : Type} {P : Program} : ∀ (s : Sem α) (v : α), symPure P s = some v → ∀ w, s.run P w = .ok v w := by
  intro s
  induction s with
  | pure a => intro v h w; simp [symPure] at h; subst h; rfl
  | program k ih => intro v h w; simp only [symPure] at h; exact ih P v h w
  | mark m k ih => intro v h w; simp only [symPure] at h; exact ih v h w
  | _ => intro v h; simp [symPure] at h

/-- What comes of an operation: the value; the blocks that are new, or hold something else; the next name; the names that were written. -/
structure Out where
  v : RV
  up : Hp
  nx : Nat
  W : List Nat
structure PostOp (e e' : Env) (h : Nat → Option HO) (nx : Nat) (out : Out) (w w' : World) : Prop where
  agree : ∀ id, id < nx ∨ out.nx ≤ id → e.same e' id
  os : w'.os = w.os
  tape : w'.tape = w.tape
  output : w'.output = w.output
  size : w.heap.size ≤ w'.heap.size
  fr : ∀ k, k < w.heap.size → (∀ id ∈ out.W, e.ρ id ≠ k) → w'.heap[k]? = w.heap[k]?
  sat : Sat e' (hlook out.up) w'
  foot : ∀ id o b, hlook out.up id = some o → o.foot e' id b → w.heap.size ≤ b ∨ (∃ o0, h id = some o0 ∧ o0.isCells = o.isCells ∧ o0.foot e id b) ∨
    (o.isCells = false ∧ ∃ id0 o0, h id0 = some o0 ∧ o0.isCells = false ∧ o0.foot e id0 b)
def OpOk (P : Program) (o : Oper) (get : Operand → RV) (hp : Hp) (nx : Nat) (out : Out) : Prop :=
  ∀ (e : Env) (a : Act) (w : World), (∀ x ∈ o.op.operands, a.eval x = (get x).den e) → Sat e (hlook hp) w → ∀ (K : Act → World → Prop) (Q : Exit → Act → World → Prop),
    (∀ e' w', PostOp e e' (hlook hp) nx out w w' → K (a.put o.dst (out.v.den e')) w') → o.wp P a w K Q
def CallOk (P : Program) (f : FuncId) (args : List RV) (hp : Hp) (nx : Nat) (out : Out) : Prop :=
  ∀ (e : Env) (w : World), Sat e (hlook hp) w → Calls P f (args.map (RV.den e)).toArray w fun en w' => ∃ e', en = .returned (out.v.den e') ∧ PostOp e e' (hlook hp) nx out w w'
theorem PostOp.none (e : Env) (h : Nat → Option HO) (nx : Nat) (v : RV) (w : World) : PostOp e e h nx ⟨v, [], nx, []⟩ w w :=
  ⟨fun _ _ => ⟨rfl, rfl⟩, rfl, rfl, rfl, Nat.le_refl _, fun _ _ _ => rfl, ⟨fun _ _ h => by simp [hlook] at h, fun _ _ _ h => by simp [hlook] at h⟩, fun _ _ _ h => by simp [hlook] at h⟩
end Go.Proofs.Ytaikocplcblnkab
