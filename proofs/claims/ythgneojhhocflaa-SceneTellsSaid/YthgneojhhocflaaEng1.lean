/- A symbolic way through the code of a call: what its slots and the blocks of its own hold, block by block, under names that stay the same whatever numbers the blocks get; slices of an open length, one's own and such as came in. Here: the words, and what they mean in a world. No condition. -/
import Derived.Test.YthgneojhhocflaaBase
import Derived.Maps.AppendAt
import Derived.Laws.OwnMore
set_option linter.unusedVariables false
namespace Go.Proofs.Ythgneojhhocflaa
open Go.RowKit

/-- What a cell holds: a number, a truth, a text, or what a slice holds, row by row. -/
inductive Ct where
  | i (n : Int)
  | b (x : Bool)
  | s (x : ByteArray)
  | l (rows : List (List Ct))
def Ct.int : Ct → Int | .i n => n | _ => 0
def Ct.bool : Ct → Bool | .b x => x | _ => false
def Ct.str : Ct → ByteArray | .s x => x | _ => .empty
def Ct.rows : Ct → List (List Ct) | .l r => r | _ => []
/-- A cell's kind. -/
inductive Sh where
  | int (k : IntKind)
  | bool
  | str
  | sl (e : List Sh)
/-- The cell in a row and a column. -/
def rd (l : List (List Ct)) (i j : Nat) : Ct := (l.getD i []).getD j (.i 0)

/-- One cell's content. 'val k v': the value v (k: it is written out whole). 'ptr', 'sl': into the block named id of one's own; 'ext': a slice of an open length; 'eptr': into the row that is named id; 'fn': a function with captured variables; 'bm': a method bound to a value of many cells, each a number or a slice of an open length. -/
inductive BV where
  | inl (v : Value)
  | inr (id : Nat)
  | sl (id off len cap : Nat)
inductive CV where
  | val (known : Bool) (v : Value)
  | ptr (id off : Nat)
  | eptr (id off : Nat)
  | sl (id off len cap : Nat)
  | ext (id : Nat)
  | fn (f : FuncId) (caps : List (Nat × Nat))
  | bm (f : FuncId) (cs : List (BV))
inductive SV where
  | one (c : CV)
  | agg (cs : List CV)
/-- 'dead': nobody reads it again. -/
inductive RV where
  | sv (s : SV)
  | tup (l : List SV)
  | dead

/-- Which block, which slice a name stands for, and which blocks it hangs on that are not its own. -/
structure Env where
  ρ : Nat → Nat
  σ : Nat → Option Addr × Nat × Nat
  φ : Nat → Nat → Prop
def Env.blk (e : Env) (id : Nat) : Nat := match (e.σ id).1 with | some a => a.block | none => 0
def Env.off (e : Env) (id : Nat) : Nat := match (e.σ id).1 with | some a => a.off | none => 0
def Env.slv (e : Env) (id : Nat) : Value := .slice (e.σ id).1 (e.σ id).2.1 (e.σ id).2.2
def Env.ptr (e : Env) (p : Nat × Nat) : Value := .pointer (some ⟨e.ρ p.1, p.2, none⟩)
def bmDen (e : Env) : BV → Value
  | .inl v => v
  | .inr id => e.slv id
  | .sl id off len cap => .slice (some ⟨e.ρ id, off, none⟩) len cap
def bmIds : BV → List Nat
  | .inl _ => []
  | .inr id => [id]
  | .sl id _ _ _ => [id]
def CV.den (e : Env) : CV → Value
  | .val _ v => v
  | .ptr id off => .pointer (some ⟨e.ρ id, off, none⟩)
  | .eptr id off => .pointer (some ⟨e.blk id, e.off id + off, none⟩)
  | .sl id off len cap => .slice (some ⟨e.ρ id, off, none⟩) len cap
  | .ext id => e.slv id
  | .fn f caps => .func (.func f) #[] (caps.map e.ptr).toArray
  | .bm f cs => .func (.func f) #[.agg (cs.map (bmDen e)).toArray] #[]
def SV.den (e : Env) : SV → Value
  | .one c => c.den e
  | .agg cs => .agg (cs.map (CV.den e)).toArray
def SV.cells : SV → List CV
  | .one c => [c]
  | .agg cs => cs
def RV.den (e : Env) : RV → Value
  | .sv s => s.den e
  | .tup l => .tuple (l.map (SV.den e)).toArray
  | .dead => undef
def RV.isDead : RV → Bool
  | .dead => true
  | _ => false
def CV.ids : CV → List Nat
  | .val _ _ => []
  | .ptr id _ => [id]
  | .eptr id _ => [id]
  | .sl id _ _ _ => [id]
  | .ext id => [id]
  | .fn _ caps => caps.map (·.1)
  | .bm _ cs => cs.flatMap bmIds
def SV.ids : SV → List Nat
  | .one c => c.ids
  | .agg cs => cs.flatMap CV.ids
def RV.ids : RV → List Nat
  | .sv s => s.ids
  | .tup l => l.flatMap SV.ids
  | .dead => []
def RV.und : RV := .sv (.one (.val true undef))
def SV.ofVal (k : Bool) : Value → SV
  | .agg cs => .agg (cs.toList.map (CV.val k))
  | v => .one (.val k v)
def RV.ofVal (k : Bool) : Value → RV
  | .tuple vs => .tup (vs.toList.map (SV.ofVal k))
  | v => .sv (SV.ofVal k v)
def CV.known : CV → Bool
  | .val k _ => k
  | _ => false
def SV.known : SV → Bool
  | .one c => c.known
  | .agg cs => cs.all CV.known
def RV.known : RV → Bool
  | .sv s => s.known
  | .tup l => l.all SV.known
  | .dead => false
/-- One cell indeed. -/
def CV.plain : CV → Bool
  | .val _ (.agg _) => false
  | .val _ (.tuple _) => false
  | _ => true
def SV.plain : SV → Bool
  | .one c => c.plain
  | .agg cs => cs.all CV.plain

/-- A slice's rows, as they lie in memory. -/
def RowsAt (w : World) (φ : Nat → Prop) (H : Sh → Ct → Value → Prop) (sh : List Sh) (l : List (List Ct)) (v : Value) : Prop :=
  ∃ a cap, v = .slice a l.length cap ∧ l.length ≤ cap ∧ cap ≤ 9223372036854775807 ∧ (a = none → cap = 0) ∧ ∀ i, i < l.length → ∃ b off, a = some (⟨b, off, none⟩ : Addr) ∧ φ b ∧
    ∀ (j : Nat) s, sh[j]? = some s → ∃ u, w.cell? ⟨b, off + i * sh.length + j, none⟩ = some u ∧ H s (rd l i j) u
/-- A cell's value is its content. -/
def CtHolds (w : World) (φ : Nat → Prop) : Nat → Sh → Ct → Value → Prop
  | _, .int k, c, v => v = .int k c.int
  | _, .bool, c, v => v = .bool c.bool
  | _, .str, c, v => v = .string c.str
  | 0, .sl _, _, _ => False
  | d + 1, .sl e, c, v => RowsAt w φ (CtHolds w φ d) e c.rows v
theorem RowsAt.mono {w w' : World} {φ φ' : Nat → Prop} {H H' : Sh → Ct → Value → Prop} {sh : List Sh} {l : List (List Ct)} {v : Value} (hb : ∀ b, φ b → φ' b ∧ w'.heap[b]? = w.heap[b]?) (hH : ∀ s c u, H s c u → H' s c u) (h : RowsAt w φ H sh l v) : RowsAt w' φ' H' sh l v := by
  obtain ⟨a, cap, hv, h1, h2, h0, h3⟩ := h
  refine ⟨a, cap, hv, h1, h2, h0, fun i hi => ?_⟩
  obtain ⟨b, off, ha, hφ, hc⟩ := h3 i hi
  refine ⟨b, off, ha, (hb b hφ).1, fun j s hs => ?_⟩
  obtain ⟨u, hu, hh⟩ := hc j s hs
  exact ⟨u, by unfold World.cell? at hu ⊢; rw [(hb b hφ).2]; exact hu, hH _ _ _ hh⟩
theorem CtHolds.mono {w w' : World} {φ φ' : Nat → Prop} (hb : ∀ b, φ b → φ' b ∧ w'.heap[b]? = w.heap[b]?) : ∀ {d : Nat} {s : Sh} {c : Ct} {v : Value}, CtHolds w φ d s c v → CtHolds w' φ' d s c v := by
  intro d
  induction d with
  | zero =>
    intro s c v h
    cases s with
    | sl e => exact False.elim h
    | _ => simpa [CtHolds] using h
  | succ d ih =>
    intro s c v h
    cases s with
    | sl e => exact RowsAt.mono hb (fun _ _ _ => ih) h
    | _ => simpa [CtHolds] using h
theorem CtHolds.deeper {w : World} {φ : Nat → Prop} : ∀ {d d' : Nat} {s : Sh} {c : Ct} {v : Value}, d ≤ d' → CtHolds w φ d s c v → CtHolds w φ d' s c v := by
  intro d
  induction d with
  | zero =>
    intro d' s c v _ h
    cases s with
    | sl e => exact False.elim h
    | _ => cases d' <;> simpa [CtHolds] using h
  | succ d ih =>
    intro d' s c v hd h
    obtain ⟨d', rfl⟩ : ∃ k, d' = k + 1 := ⟨d' - 1, by omega⟩
    cases s with
    | sl e => exact RowsAt.mono (fun _ h => ⟨h, rfl⟩) (fun _ _ _ hh => ih (by omega) hh) h
    | _ => simpa [CtHolds] using h

/-- What lies under a name: cells of one's own; a slice that is read alone; a slice of one's own that grows; the row i of a slice whose rows have w cells; what is used up. -/
inductive HO where
  | cells (cs : List CV) (t : TypeId)
  | grid (sh : List Sh) (l : List (List Ct))
  | row (sh : List Sh) (t : TypeId) (l : List (List Ct))
  | elem (id i w : Nat)
  | gone
abbrev Hp := List (Nat × HO)
def HO.ids : HO → List Nat
  | .cells cs _ => cs.flatMap CV.ids
  | .elem id _ _ => [id]
  | _ => []
def hlook : Hp → Nat → Option HO
  | [], _ => none
  | (i, o) :: r, id => bif Nat.beq i id then some o else hlook r id
def HO.holds (e : Env) (w : World) (id : Nat) : HO → Prop
  | .cells cs t => w.heap[e.ρ id]? = some (.cells (cs.map (CV.den e)).toArray t (0, 0))
  | .grid sh l => (∃ d, RowsAt w (e.φ id) (CtHolds w (e.φ id) d) sh l (e.slv id)) ∧ ∀ b, e.φ id b → b < w.heap.size
  | .row sh t l => (∃ d xs, w.ownsRow 0 t sh.length (e.slv id) l.length xs ∧ ∀ i, i < l.length → ∀ (j : Nat) s, sh[j]? = some s → ∃ u, xs[i * sh.length + j]? = some u ∧ CtHolds w (e.φ id) d s (rd l i j) u) ∧
      ∀ b, e.φ id b → b < w.heap.size ∧ (e.slv id).ownBlock ≠ some b
  | .elem id' i w' => (∃ a, (e.σ id').1 = some a ∧ a.spot = none ∧ (e.σ id).1 = some ⟨a.block, a.off + i * w', none⟩) ∧ i < (e.σ id').2.1
  | .gone => True
/-- The block that is its own. -/
def HO.owns (e : Env) (id b : Nat) : HO → Prop
  | .cells _ _ => b = e.ρ id
  | .row _ _ _ => (e.slv id).ownBlock = some b
  | _ => False
/-- The blocks on which it hangs. -/
def HO.foot (e : Env) (id b : Nat) : HO → Prop
  | .cells _ _ => b = e.ρ id
  | .row _ _ _ => (e.slv id).ownBlock = some b ∨ e.φ id b
  | .grid _ _ => e.φ id b
  | _ => False
theorem HO.owns_foot {e : Env} {id b : Nat} {o : HO} (h : o.owns e id b) : o.foot e id b := by
  cases o with
  | cells _ _ => exact h
  | row _ _ _ => exact .inl h
  | _ => exact False.elim h
structure Sat (e : Env) (h : Nat → Option HO) (w : World) : Prop where
  holds : ∀ id o, h id = some o → o.holds e w id
  apart : ∀ id o, h id = some o → ∀ id' o', h id' = some o' → id ≠ id' → ∀ b, o.owns e id b → ¬ o'.foot e id' b
def Env.same (e e' : Env) (id : Nat) : Prop := e'.ρ id = e.ρ id ∧ e'.σ id = e.σ id ∧ e'.φ id = e.φ id
theorem Env.same.off {e e' : Env} {id : Nat} (h : e.same e' id) : e'.off id = e.off id := by unfold Env.off; rw [h.2.1]
theorem Env.same.blk {e e' : Env} {id : Nat} (h : e.same e' id) : e'.blk id = e.blk id := by unfold Env.blk; rw [h.2.1]
theorem Env.same.slv {e e' : Env} {id : Nat} (h : e.same e' id) : e'.slv id = e.slv id := by unfold Env.slv; rw [h.2.1]
theorem Env.same.refl (e : Env) (id : Nat) : e.same e id := ⟨rfl, rfl, rfl⟩
theorem Env.same.trans {e e' e'' : Env} {id : Nat} (h : e.same e' id) (k : e'.same e'' id) : e.same e'' id := ⟨k.1.trans h.1, k.2.1.trans h.2.1, k.2.2.trans h.2.2⟩
theorem Env.same.symm {e e' : Env} {id : Nat} (h : e.same e' id) : e'.same e id := ⟨h.1.symm, h.2.1.symm, h.2.2.symm⟩

theorem CV.den_same {e e' : Env} (c : CV) (h : ∀ id ∈ c.ids, e.same e' id) : c.den e' = c.den e := by
  cases c with
  | val k v => rfl
  | ptr id off => have := (h id (by simp [CV.ids])).1; simp [CV.den, this]
  | eptr id off => have k := h id (by simp [CV.ids]); simp [CV.den, k.blk, k.off]
  | sl id off len cap => have := (h id (by simp [CV.ids])).1; simp [CV.den, this]
  | ext id => exact (h id (by simp [CV.ids])).slv
  | fn f caps =>
    simp only [CV.den, Value.func.injEq, true_and]
    congr 1
    refine List.map_congr_left fun p hp => ?_
    have := (h p.1 (by simp only [CV.ids, List.mem_map]; exact ⟨p, hp, rfl⟩)).1
    simp [Env.ptr, this]
  | bm f cs =>
    have : cs.map (bmDen e') = cs.map (bmDen e) := List.map_congr_left fun p hp => by
      cases p with
      | inl v => rfl
      | inr id => exact (h id (by simp only [CV.ids, List.mem_flatMap]; exact ⟨_, hp, by simp [bmIds]⟩)).slv
      | sl id off len cap => simp only [bmDen, (h id (by simp only [CV.ids, List.mem_flatMap]; exact ⟨_, hp, by simp [bmIds]⟩)).1]
    simp only [CV.den, this]
theorem cvs_den_same {e e' : Env} (cs : List CV) (h : ∀ id ∈ cs.flatMap CV.ids, e.same e' id) : cs.map (CV.den e') = cs.map (CV.den e) :=
  List.map_congr_left fun c hc => c.den_same fun id hi => h id (List.mem_flatMap.2 ⟨c, hc, hi⟩)
theorem SV.den_same {e e' : Env} (s : SV) (h : ∀ id ∈ s.ids, e.same e' id) : s.den e' = s.den e := by
  cases s with
  | one c => exact c.den_same h
  | agg cs => simp only [SV.den]; rw [cvs_den_same cs h]
theorem RV.den_same {e e' : Env} (r : RV) (h : ∀ id ∈ r.ids, e.same e' id) : r.den e' = r.den e := by
  cases r with
  | sv s => exact s.den_same h
  | tup l =>
    simp only [RV.den]
    rw [List.map_congr_left fun s hs => s.den_same fun id hi => h id (List.mem_flatMap.2 ⟨s, hs, hi⟩)]
  | dead => rfl

theorem SV.den_ofVal (e : Env) (k : Bool) (v : Value) : (SV.ofVal k v).den e = v := by
  cases v <;> simp [SV.ofVal, SV.den, CV.den, Function.comp_def]
theorem RV.den_ofVal (e : Env) (k : Bool) (v : Value) : (RV.ofVal k v).den e = v := by
  cases v <;> simp [RV.ofVal, RV.den, SV.den_ofVal, Function.comp_def]
theorem SV.ids_ofVal (k : Bool) (v : Value) : (SV.ofVal k v).ids = [] := by
  cases v <;> simp [SV.ofVal, SV.ids, CV.ids]
theorem RV.ids_ofVal (k : Bool) (v : Value) : (RV.ofVal k v).ids = [] := by
  cases v <;> simp [RV.ofVal, RV.ids, SV.ids_ofVal]
theorem RV.ofVal_live (k : Bool) (v : Value) : (RV.ofVal k v).isDead = false := by
  cases v <;> rfl
theorem CV.cells_den (e : Env) {c : CV} (h : c.plain = true) : (c.den e).cells = #[c.den e] := by
  cases c with
  | val k v => cases v <;> simp_all [CV.plain, CV.den, Value.cells]
  | _ => rfl
theorem SV.cells_den (e : Env) {s : SV} (h : s.plain = true) : (s.den e).cells = (s.cells.map (CV.den e)).toArray := by
  cases s with
  | one c => simp only [SV.den, SV.cells, List.map_cons, List.map_nil]; exact CV.cells_den e h
  | agg cs => rfl

theorem heap_some_lt {w : World} {n : Nat} {o : Obj} (h : w.heap[n]? = some o) : n < w.heap.size := by
  rcases Nat.lt_or_ge n w.heap.size with h' | h'
  · exact h'
  · rw [Array.getElem?_eq_none h'] at h; cases h
/-- What it hangs on is there. -/
theorem HO.foot_lt {e : Env} {w : World} {id b : Nat} {o : HO} (h : o.holds e w id) (hf : o.foot e id b) : b < w.heap.size := by
  cases o with
  | cells cs t => rw [show b = e.ρ id from hf]; exact heap_some_lt h
  | grid sh l => exact h.2 b hf
  | row sh t l =>
    rcases hf with hf | hf
    · obtain ⟨⟨d, xs, ho, _⟩, _⟩ := h
      exact (ho.lt b hf).2
    · exact (h.2 b hf).1
  | _ => exact False.elim hf
theorem cell_of_heap {w w' : World} {a : Addr} (h : w'.heap[a.block]? = w.heap[a.block]?) : w'.cell? a = w.cell? a := by
  unfold World.cell?; rw [h]
theorem ownsRow_next {w w' : World} {base : Nat} {t : TypeId} {size : Nat} {v : Value} {n : Nat} {xs : List Value} (h : w.ownsRow base t size v n xs) (hb : ∀ b, v.ownBlock = some b → w'.heap[b]? = w.heap[b]?) : w'.ownsRow base t size v n xs := by
  refine ⟨h.1, ?_⟩
  rcases h.2 with hn | ⟨g, cap, cur, rfl, hg, hgg, rest⟩
  · exact .inl hn
  · exact .inr ⟨g, cap, cur, rfl, hg, by rw [hb g rfl]; exact hgg, rest⟩
/-- It goes on where the blocks on which it hangs are left as they were. -/
theorem HO.holds_next {e e' : Env} {w w' : World} {id : Nat} {o : HO} (h : o.holds e w id) (hid : e.same e' id) (hids : ∀ i ∈ o.ids, e.same e' i)
    (hb : ∀ b, o.foot e id b → w'.heap[b]? = w.heap[b]?) (hsz : w.heap.size ≤ w'.heap.size) : o.holds e' w' id := by
  cases o with
  | cells cs t =>
    simp only [HO.holds] at h ⊢
    rw [hid.1, cvs_den_same cs hids, hb _ rfl]; exact h
  | grid sh l =>
    obtain ⟨⟨d, hr⟩, hlt⟩ := h
    refine ⟨⟨d, ?_⟩, fun b hb' => ?_⟩
    · rw [hid.slv, hid.2.2]
      exact hr.mono (fun b hf => ⟨hf, hb b hf⟩) (fun _ _ _ => CtHolds.mono fun b hf => ⟨hf, hb b hf⟩)
    · rw [hid.2.2] at hb'; exact Nat.lt_of_lt_of_le (hlt b hb') hsz
  | row sh t l =>
    obtain ⟨⟨d, xs, ho, hc⟩, hlt⟩ := h
    refine ⟨⟨d, xs, ?_, fun i hi j s hs => ?_⟩, fun b hb' => ?_⟩
    · rw [hid.slv]; exact ownsRow_next ho fun b hf => hb b (.inl hf)
    · obtain ⟨u, hu, hh⟩ := hc i hi j s hs
      exact ⟨u, hu, by rw [hid.2.2]; exact hh.mono fun b hf => ⟨hf, hb b (.inr hf)⟩⟩
    · rw [hid.2.2] at hb'
      rw [hid.slv]
      exact ⟨Nat.lt_of_lt_of_le (hlt b hb').1 hsz, (hlt b hb').2⟩
  | elem id' i w' =>
    have k := hids id' (by simp [HO.ids])
    simp only [HO.holds] at h ⊢
    rw [k.2.1, hid.2.1]; exact h
  | gone => trivial
theorem HO.foot_same {e e' : Env} {id b : Nat} {o : HO} (hid : e.same e' id) : o.foot e' id b ↔ o.foot e id b := by
  cases o <;> simp [HO.foot, hid.1, hid.slv, hid.2.2]
theorem HO.owns_same {e e' : Env} {id b : Nat} {o : HO} (hid : e.same e' id) : o.owns e' id b ↔ o.owns e id b := by
  cases o <;> simp [HO.owns, hid.1, hid.slv]
/-- o lies where o0 lay. -/
def Kle (o0 o : HO) : Prop := ∀ e id b, o.foot e id b → o0.foot e id b ∧ (o.owns e id b ↔ o0.owns e id b)
theorem Kle.refl (o : HO) : Kle o o := fun _ _ _ h => ⟨h, Iff.rfl⟩
theorem Kle.trans {a b c : HO} (h : Kle a b) (k : Kle b c) : Kle a c := fun e id x hx =>
  ⟨(h e id x (k e id x hx).1).1, ((k e id x hx).2).trans (h e id x (k e id x hx).1).2⟩
theorem Kle.owns {a b : HO} (h : Kle a b) {e : Env} {id x : Nat} (hx : b.owns e id x) : a.owns e id x := (h e id x (HO.owns_foot hx)).2.1 hx
def kle : HO → HO → Bool
  | .cells _ _, .cells _ _ => true
  | .row _ _ _, .row _ _ _ => true
  | .cells _ _, .gone => true
  | .row _ _ _, .gone => true
  | _, _ => false
theorem kle_spec {o0 o : HO} (h : kle o0 o = true) : Kle o0 o := by
  intro e id b hf
  cases o0 <;> cases o <;> first | (cases h; done) | (exact ⟨hf, Iff.rfl⟩) | (exact False.elim hf)

theorem hlook_append (l l' : Hp) (id : Nat) : hlook (l ++ l') id = (match hlook l id with | some o => some o | none => hlook l' id) := by
  induction l with
  | nil => rfl
  | cons p l ih =>
    obtain ⟨i, o⟩ := p
    simp only [List.cons_append, hlook]
    cases Nat.beq i id <;> simp [ih]
theorem hlook_mem {l : Hp} {id : Nat} {o : HO} (h : hlook l id = some o) : (id, o) ∈ l := by
  induction l with
  | nil => simp [hlook] at h
  | cons p l ih =>
    obtain ⟨i, o'⟩ := p
    simp only [hlook] at h
    cases hb : Nat.beq i id with
    | true =>
      rw [hb] at h
      simp only [cond_true, Option.some.injEq] at h
      rw [Nat.eq_of_beq_eq_true hb, h]; exact List.mem_cons_self
    | false => rw [hb] at h; exact List.mem_cons_of_mem _ (ih h)
theorem hlook_of_mem {l : Hp} {id : Nat} {o : HO} (h : (id, o) ∈ l) : ∃ o', hlook l id = some o' := by
  induction l with
  | nil => cases h
  | cons p l ih =>
    obtain ⟨i, o'⟩ := p
    simp only [hlook]
    cases hb : Nat.beq i id with
    | true => exact ⟨o', rfl⟩
    | false =>
      rcases List.mem_cons.1 h with h' | h'
      · cases h'; rw [Nat.beq_refl] at hb; cases hb
      · exact ih h'

/-- The part of a heap under some names. -/
def restrict (hp : Hp) : List Nat → Hp
  | [] => []
  | id :: r => match hlook hp id with
    | some o => (id, o) :: restrict hp r
    | none => restrict hp r
theorem hlook_restrict {hp : Hp} {R : List Nat} {id : Nat} {o : HO} (h : hlook (restrict hp R) id = some o) : id ∈ R ∧ hlook hp id = some o := by
  induction R with
  | nil => simp [restrict, hlook] at h
  | cons i R ih =>
    simp only [restrict] at h
    split at h
    · rename_i o' ho
      simp only [hlook] at h
      cases hb : Nat.beq i id with
      | true =>
        rw [hb] at h
        simp only [cond_true, Option.some.injEq] at h
        subst h
        rw [← Nat.eq_of_beq_eq_true hb]
        exact ⟨List.mem_cons_self, ho⟩
      | false => rw [hb] at h; exact ⟨List.mem_cons_of_mem _ (ih h).1, (ih h).2⟩
    · exact ⟨List.mem_cons_of_mem _ (ih h).1, (ih h).2⟩
def reach (hp : Hp) : Nat → List Nat → List Nat → List Nat
  | 0, _, seen => seen
  | _ + 1, [], seen => seen
  | n + 1, id :: rest, seen =>
    bif seen.any (Nat.beq id) then reach hp n rest seen else
    match hlook hp id with
    | some o => reach hp n (o.ids ++ rest) (id :: seen)
    | none => reach hp n rest seen

/-- A piece of the model that touches no memory. -/
def symPure {α : Type} (P : Program) : Sem α → Option α
  | .pure a => some a
  | .program k => symPure P (k P)
  | .mark _ k => symPure P k
  | _ => none
theorem symPure_run {α : Type} {P : Program} : ∀ (s : Sem α) (v : α), symPure P s = some v → ∀ w, s.run P w = .ok v w := by
  intro s
  induction s with
  | pure a => intro v h w; simp [symPure] at h; subst h; rfl
  | program k ih => intro v h w; simp only [symPure] at h; exact ih P v h w
  | mark m k ih => intro v h w; simp only [symPure] at h; exact ih v h w
  | _ => intro v h; simp [symPure] at h

/-- What comes of an operation: the value; the blocks that are new, or hold something else; the next name; the names that were written. -/
structure Out where
  v : RV
  up : Hp
  nx : Nat
  W : List Nat
structure PostOp (e e' : Env) (h : Nat → Option HO) (nx : Nat) (out : Out) (w w' : World) : Prop where
  agree : ∀ id, id < nx ∨ out.nx ≤ id → e.same e' id
  os : w'.os = w.os
  tape : w'.tape = w.tape
  output : w'.output = w.output
  size : w.heap.size ≤ w'.heap.size
  fr : ∀ k, k < w.heap.size → (∀ id ∈ out.W, ∀ o, h id = some o → ¬ o.owns e id k) → w'.heap[k]? = w.heap[k]?
  sat : Sat e' (hlook out.up) w'
  own : ∀ id o b, hlook out.up id = some o → o.owns e' id b → w.heap.size ≤ b ∨ ∃ id0 ∈ out.W, ∃ o0, h id0 = some o0 ∧ o0.owns e id0 b
  foot : ∀ id o b, hlook out.up id = some o → o.foot e' id b → w.heap.size ≤ b ∨ (∃ id0 ∈ out.W, ∃ o0, h id0 = some o0 ∧ o0.owns e id0 b) ∨ ∃ id0 o0, h id0 = some o0 ∧ o0.foot e id0 b ∧ ¬ o0.owns e id0 b
def OpOk (P : Program) (o : Oper) (get : Operand → RV) (hp : Hp) (nx : Nat) (out : Out) : Prop :=
  ∀ (e : Env) (a : Act) (w : World), (∀ x ∈ o.op.operands, a.eval x = (get x).den e) → Sat e (hlook hp) w → ∀ (K : Act → World → Prop) (Q : Exit → Act → World → Prop),
    (∀ e' w', PostOp e e' (hlook hp) nx out w w' → K (a.put o.dst (out.v.den e')) w') → o.wp P a w K Q
def CallOk (P : Program) (f : FuncId) (args : List RV) (hp : Hp) (nx : Nat) (out : Out) : Prop :=
  ∀ (e : Env) (w : World), Sat e (hlook hp) w → Calls P f (args.map (RV.den e)).toArray w fun en w' => ∃ e', en = .returned (out.v.den e') ∧ PostOp e e' (hlook hp) nx out w w'
theorem PostOp.none (e : Env) (h : Nat → Option HO) (nx nx' : Nat) (v : RV) (w : World) : PostOp e e h nx ⟨v, [], nx', []⟩ w w :=
  ⟨fun _ _ => .refl _ _, rfl, rfl, rfl, Nat.le_refl _, fun _ _ _ => rfl, ⟨fun _ _ h => by simp [hlook] at h, fun _ _ h => by simp [hlook] at h⟩, fun _ _ _ h => by simp [hlook] at h, fun _ _ _ h => by simp [hlook] at h⟩
end Go.Proofs.Ythgneojhhocflaa
