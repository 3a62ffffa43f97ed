/- Eng1, Eng2, Eng3, EngS, EngT, laid together. No condition. -/
import Derived.Test.YtonlllijdbjkaaaBase
import Derived.Maps.AppendAt
import Derived.Laws.OwnMore
import Derived.Laws.StructEq
import Derived.Laws.Tables
import Derived.Laws.CopyRow
import Derived.Laws.Small
import Derived.Laws.MakeOwn
import Derived.Laws.Slices
import Derived.Lib.ConvBytes
import Derived.Laws.BytesString
/- A symbolic way through the code of a call: what its slots and the blocks of its own hold, block by block, under names that stay the same whatever numbers the blocks get; slices of an open length, one's own and such as came in. Here: the words, and what they mean in a world. No condition. -/
set_option linter.unusedVariables false
namespace Go.Proofs.Ytonlllijdbjkaaa
open Go.RowKit

/-- What a cell holds: a number, a truth, a text, or what a slice holds, row by row. -/
inductive Ct where
  | i (n : Int)
  | b (x : Bool)
  | s (x : ByteArray)
  | l (rows : List (List Ct))
def Ct.int : Ct → Int | .i n => n | _ => 0
def Ct.bool : Ct → Bool | .b x => x | _ => false
def Ct.str : Ct → ByteArray | .s x => x | _ => .empty
def Ct.rows : Ct → List (List Ct) | .l r => r | _ => []
/-- A cell's kind. 'fn al': a function out of a list, by the first number of its content: the function, and what it has captured, block by block (the content's rows from the second on); beyond the list: nil. -/
inductive Sh where
  | int (k : IntKind)
  | bool
  | str
  | sl (e : List Sh)
  | fn (al : List (FuncId × List (TypeId × List Sh)))
def Sh.isFn : Sh → Bool
  | .fn _ => true
  | _ => false
/-- The cell in a row and a column. -/
def rd (l : List (List Ct)) (i j : Nat) : Ct := (l.getD i []).getD j (.i 0)

/-- One cell's content. 'val k v': the value v (k: it is written out whole). 'ptr', 'sl': into the block named id of one's own; 'ext': a slice of an open length; 'eptr': into the row that is named id; 'fn': a function with captured variables; 'bm': a method bound to a value of many cells, each a number or a slice of an open length. 'tab k n l': an array of n numbers, as rows. -/
inductive BV where
  | inl (v : Value)
  | inr (id : Nat)
  | sl (id off len cap : Nat)
inductive CV where
  | val (known : Bool) (v : Value)
  | ptr (id off : Nat)
  | eptr (id off : Nat)
  | sl (id off len cap : Nat)
  | ext (id : Nat)
  | fn (f : FuncId) (caps : List (Nat × Nat))
  | bm (f : FuncId) (cs : List (BV))
  | tab (k : IntKind) (n : Nat) (l : List (List Ct))
inductive SV where
  | one (c : CV)
  | agg (cs : List CV)
/-- 'dead': nobody reads it again. -/
inductive RV where
  | sv (s : SV)
  | tup (l : List SV)
  | dead

/-- Which block, which slice a name stands for, and which blocks it hangs on that are not its own. -/
structure Env where
  ρ : Nat → Nat
  σ : Nat → Option Addr × Nat × Nat
  φ : Nat → Nat → Prop
def Env.blk (e : Env) (id : Nat) : Nat := match (e.σ id).1 with | some a => a.block | none => 0
def Env.off (e : Env) (id : Nat) : Nat := match (e.σ id).1 with | some a => a.off | none => 0
def Env.slv (e : Env) (id : Nat) : Value := .slice (e.σ id).1 (e.σ id).2.1 (e.σ id).2.2
def Env.ptr (e : Env) (p : Nat × Nat) : Value := .pointer (some ⟨e.ρ p.1, p.2, none⟩)
def bmDen (e : Env) : BV → Value
  | .inl v => v
  | .inr id => e.slv id
  | .sl id off len cap => .slice (some ⟨e.ρ id, off, none⟩) len cap
def bmIds : BV → List Nat
  | .inl _ => []
  | .inr id => [id]
  | .sl id _ _ _ => [id]
/-- An array of numbers. -/
def tabA (k : IntKind) (n : Nat) (l : List (List Ct)) : Array Value := ((List.range n).map fun j => Value.int k (rd l j 0).int).toArray
def tabV (k : IntKind) (n : Nat) (l : List (List Ct)) : Value := .agg (tabA k n l)
def CV.den (e : Env) : CV → Value
  | .val _ v => v
  | .ptr id off => .pointer (some ⟨e.ρ id, off, none⟩)
  | .eptr id off => .pointer (some ⟨e.blk id, e.off id + off, none⟩)
  | .sl id off len cap => .slice (some ⟨e.ρ id, off, none⟩) len cap
  | .ext id => e.slv id
  | .fn f caps => .func (.func f) #[] (caps.map e.ptr).toArray
  | .bm f cs => .func (.func f) #[.agg (cs.map (bmDen e)).toArray] #[]
  | .tab k n l => tabV k n l
def SV.den (e : Env) : SV → Value
  | .one c => c.den e
  | .agg cs => .agg (cs.map (CV.den e)).toArray
def SV.cells : SV → List CV
  | .one c => [c]
  | .agg cs => cs
def RV.den (e : Env) : RV → Value
  | .sv s => s.den e
  | .tup l => .tuple (l.map (SV.den e)).toArray
  | .dead => undef
def RV.isDead : RV → Bool
  | .dead => true
  | _ => false
def CV.ids : CV → List Nat
  | .val _ _ => []
  | .ptr id _ => [id]
  | .eptr id _ => [id]
  | .sl id _ _ _ => [id]
  | .ext id => [id]
  | .fn _ caps => caps.map (·.1)
  | .bm _ cs => cs.flatMap bmIds
  | .tab _ _ _ => []
def SV.ids : SV → List Nat
  | .one c => c.ids
  | .agg cs => cs.flatMap CV.ids
def RV.ids : RV → List Nat
  | .sv s => s.ids
  | .tup l => l.flatMap SV.ids
  | .dead => []
/-- Short words for the texts that are printed. -/
abbrev CV.q (n : Int) : CV := .val false (.int .i64 n)
abbrev RV.o (c : CV) : RV := .sv (.one c)
abbrev RV.d : RV := .dead
def RV.und : RV := .sv (.one (.val true undef))
def SV.ofVal (k : Bool) : Value → SV
  | .agg cs => .agg (cs.toList.map (CV.val k))
  | v => .one (.val k v)
def RV.ofVal (k : Bool) : Value → RV
  | .tuple vs => .tup (vs.toList.map (SV.ofVal k))
  | v => .sv (SV.ofVal k v)
def CV.known : CV → Bool
  | .val k _ => k
  | _ => false
def SV.known : SV → Bool
  | .one c => c.known
  | .agg cs => cs.all CV.known
def RV.known : RV → Bool
  | .sv s => s.known
  | .tup l => l.all SV.known
  | .dead => false
/-- One cell indeed. -/
def CV.plain : CV → Bool
  | .val _ (.agg _) => false
  | .val _ (.tuple _) => false
  | .tab _ _ _ => false
  | _ => true
def SV.plain : SV → Bool
  | .one c => c.plain
  | .agg cs => cs.all CV.plain

/-- A slice's rows, as they lie in memory. -/
def RowsAt (w : World) (φ : Nat → Prop) (H : Sh → Ct → Value → Prop) (sh : List Sh) (l : List (List Ct)) (v : Value) : Prop :=
  ∃ a cap, v = .slice a l.length cap ∧ l.length ≤ cap ∧ cap ≤ 9223372036854775807 ∧ (a = none → cap = 0) ∧ ∀ i, i < l.length → ∃ b off, a = some (⟨b, off, none⟩ : Addr) ∧ φ b ∧
    ∀ (j : Nat) s, sh[j]? = some s → ∃ u, w.cell? ⟨b, off + i * sh.length + j, none⟩ = some u ∧ H s (rd l i j) u
/-- A function with what it has captured, as it lies in memory. -/
def FnAt (w : World) (φ : Nat → Prop) (H : Sh → Ct → Value → Prop) (al : List (FuncId × List (TypeId × List Sh))) (l : List (List Ct)) (v : Value) : Prop :=
  (al[(rd l 0 0).int.toNat]? = none ∧ v = .nilFunc) ∨ ∃ f caps, al[(rd l 0 0).int.toNat]? = some (f, caps) ∧ ∃ bs : List Nat, bs.length = caps.length ∧ v = .func (.func f) #[] (bs.map fun b => Value.pointer (some ⟨b, 0, none⟩)).toArray ∧
    ∀ (k : Nat) t shs, caps[k]? = some (t, shs) → ∃ b us, bs[k]? = some b ∧ φ b ∧ w.heap[b]? = some (.cells us t (0, 0)) ∧ us.size = shs.length ∧ ∀ (j : Nat) s, shs[j]? = some s → ∃ u, us[j]? = some u ∧ H s (rd l (k + 1) j) u
/-- A cell's value is its content. -/
def CtHolds (w : World) (φ : Nat → Prop) : Nat → Sh → Ct → Value → Prop
  | _, .int k, c, v => v = .int k c.int
  | _, .bool, c, v => v = .bool c.bool
  | _, .str, c, v => v = .string c.str
  | 0, .sl _, _, _ => False
  | d + 1, .sl e, c, v => RowsAt w φ (CtHolds w φ d) e c.rows v
  | 0, .fn _, _, _ => False
  | d + 1, .fn al, c, v => FnAt w φ (CtHolds w φ d) al c.rows v
theorem FnAt.mono {w w' : World} {φ φ' : Nat → Prop} {H H' : Sh → Ct → Value → Prop} {al : List (FuncId × List (TypeId × List Sh))} {l : List (List Ct)} {v : Value} (hb : ∀ b, φ b → φ' b ∧ w'.heap[b]? = w.heap[b]?) (hH : ∀ s c u, H s c u → H' s c u) (h : FnAt w φ H al l v) : FnAt w' φ' H' al l v := by
  rcases h with h | ⟨f, caps, h1, bs, h2, h3, h4⟩
  · exact .inl h
  · refine .inr ⟨f, caps, h1, bs, h2, h3, fun k t shs hk => ?_⟩
    obtain ⟨b, us, g1, g2, g3, g4, g5⟩ := h4 k t shs hk
    refine ⟨b, us, g1, (hb b g2).1, by rw [(hb b g2).2]; exact g3, g4, fun j s hs => ?_⟩
    obtain ⟨u, hu, hh⟩ := g5 j s hs
    exact ⟨u, hu, hH _ _ _ hh⟩
theorem RowsAt.mono {w w' : World} {φ φ' : Nat → Prop} {H H' : Sh → Ct → Value → Prop} {sh : List Sh} {l : List (List Ct)} {v : Value} (hb : ∀ b, φ b → φ' b ∧ w'.heap[b]? = w.heap[b]?) (hH : ∀ s c u, H s c u → H' s c u) (h : RowsAt w φ H sh l v) : RowsAt w' φ' H' sh l v := by
  obtain ⟨a, cap, hv, h1, h2, h0, h3⟩ := h
  refine ⟨a, cap, hv, h1, h2, h0, fun i hi => ?_⟩
  obtain ⟨b, off, ha, hφ, hc⟩ := h3 i hi
  refine ⟨b, off, ha, (hb b hφ).1, fun j s hs => ?_⟩
  obtain ⟨u, hu, hh⟩ := hc j s hs
  exact ⟨u, by unfold World.cell? at hu ⊢; rw [(hb b hφ).2]; exact hu, hH _ _ _ hh⟩
theorem CtHolds.mono {w w' : World} {φ φ' : Nat → Prop} (hb : ∀ b, φ b → φ' b ∧ w'.heap[b]? = w.heap[b]?) : ∀ {d : Nat} {s : Sh} {c : Ct} {v : Value}, CtHolds w φ d s c v → CtHolds w' φ' d s c v := by
  intro d
  induction d with
  | zero =>
    intro s c v h
    cases s with
    | sl e => exact False.elim h
    | fn al => exact False.elim h
    | _ => simpa [CtHolds] using h
  | succ d ih =>
    intro s c v h
    cases s with
    | sl e => exact RowsAt.mono hb (fun _ _ _ => ih) h
    | fn al => exact FnAt.mono hb (fun _ _ _ => ih) h
    | _ => simpa [CtHolds] using h
theorem CtHolds.deeper {w : World} {φ : Nat → Prop} : ∀ {d d' : Nat} {s : Sh} {c : Ct} {v : Value}, d ≤ d' → CtHolds w φ d s c v → CtHolds w φ d' s c v := by
  intro d
  induction d with
  | zero =>
    intro d' s c v _ h
    cases s with
    | sl e => exact False.elim h
    | fn al => exact False.elim h
    | _ => cases d' <;> simpa [CtHolds] using h
  | succ d ih =>
    intro d' s c v hd h
    obtain ⟨d', rfl⟩ : ∃ k, d' = k + 1 := ⟨d' - 1, by omega⟩
    cases s with
    | sl e => exact RowsAt.mono (fun _ h => ⟨h, rfl⟩) (fun _ _ _ hh => ih (by omega) hh) h
    | fn al => exact FnAt.mono (fun _ h => ⟨h, rfl⟩) (fun _ _ _ hh => ih (by omega) hh) h
    | _ => simpa [CtHolds] using h

/-- What lies under a name: cells of one's own; a slice that is read alone; a slice of one's own that grows; the row i of a slice whose rows have w cells; what is used up. 'tie g k x': of the slice k: it begins the block x (g), or x is what it may hold. 'lent': cells of a block that is read alone. -/
inductive HO where
  | cells (cs : List CV) (t : TypeId)
  | grid (sh : List Sh) (l : List (List Ct))
  | row (sh : List Sh) (t : TypeId) (l : List (List Ct))
  | elem (id i w : Nat)
  | gone
  | tie (g : Bool) (k x : Nat)
  | part (id i w n : Nat)
  | lent (cs : List CV) (t : TypeId)
abbrev Hp := List (Nat × HO)
def HO.ids : HO → List Nat
  | .cells cs _ => cs.flatMap CV.ids
  | .elem id _ _ => [id]
  | .tie _ k _ => [k]
  | .part id _ _ _ => [id]
  | .lent cs _ => cs.flatMap CV.ids
  | _ => []
def hlook : Hp → Nat → Option HO
  | [], _ => none
  | (i, o) :: r, id => bif Nat.beq i id then some o else hlook r id
def HO.holds (e : Env) (w : World) (id : Nat) : HO → Prop
  | .cells cs t => w.heap[e.ρ id]? = some (.cells (cs.map (CV.den e)).toArray t (0, 0))
  | .grid sh l => (∃ d, RowsAt w (e.φ id) (CtHolds w (e.φ id) d) sh l (e.slv id)) ∧ ∀ b, e.φ id b → b < w.heap.size
  | .row sh t l => (∃ d xs, w.ownsRow 0 t sh.length (e.slv id) l.length xs ∧ ∀ i, i < l.length → ∀ (j : Nat) s, sh[j]? = some s → ∃ u, xs[i * sh.length + j]? = some u ∧ CtHolds w (e.φ id) d s (rd l i j) u) ∧
      ∀ b, e.φ id b → b < w.heap.size ∧ (e.slv id).ownBlock ≠ some b
  | .elem id' i w' => (∃ a, (e.σ id').1 = some a ∧ a.spot = none ∧ (e.σ id).1 = some ⟨a.block, a.off + i * w', none⟩) ∧ i < (e.σ id').2.1
  | .gone => True
  | .lent cs t => w.heap[e.ρ id]? = some (.cells (cs.map (CV.den e)).toArray t (0, 0))
  | .tie g k x => (g = true → (e.σ k).1 = some ⟨x, 0, none⟩) ∧ (g = false → (e.σ k).2.2 = x)
  | .part id' i w' n => (e.σ id).2.1 = n ∧ (0 < n → (∃ a, (e.σ id').1 = some a ∧ a.spot = none ∧ (e.σ id).1 = some ⟨a.block, a.off + i * w', none⟩) ∧ i + n ≤ (e.σ id').2.1 ∧ (e.σ id).2.2 = (e.σ id').2.2 - i)
/-- The block that is its own. -/
def HO.owns (e : Env) (id b : Nat) : HO → Prop
  | .cells _ _ => b = e.ρ id
  | .row _ _ _ => (e.slv id).ownBlock = some b
  | _ => False
/-- The blocks on which it hangs. -/
def HO.foot (e : Env) (id b : Nat) : HO → Prop
  | .cells _ _ => b = e.ρ id
  | .row _ _ _ => (e.slv id).ownBlock = some b ∨ e.φ id b
  | .grid _ _ => e.φ id b
  | .lent _ _ => b = e.ρ id
  | _ => False
theorem HO.owns_foot {e : Env} {id b : Nat} {o : HO} (h : o.owns e id b) : o.foot e id b := by
  cases o with
  | cells _ _ => exact h
  | row _ _ _ => exact .inl h
  | _ => exact False.elim h
structure Sat (e : Env) (h : Nat → Option HO) (w : World) : Prop where
  holds : ∀ id o, h id = some o → o.holds e w id
  apart : ∀ id o, h id = some o → ∀ id' o', h id' = some o' → id ≠ id' → ∀ b, o.owns e id b → ¬ o'.foot e id' b
def Env.same (e e' : Env) (id : Nat) : Prop := e'.ρ id = e.ρ id ∧ e'.σ id = e.σ id ∧ e'.φ id = e.φ id
theorem Env.same.off {e e' : Env} {id : Nat} (h : e.same e' id) : e'.off id = e.off id := by unfold Env.off; rw [h.2.1]
theorem Env.same.blk {e e' : Env} {id : Nat} (h : e.same e' id) : e'.blk id = e.blk id := by unfold Env.blk; rw [h.2.1]
theorem Env.same.slv {e e' : Env} {id : Nat} (h : e.same e' id) : e'.slv id = e.slv id := by unfold Env.slv; rw [h.2.1]
theorem Env.same.refl (e : Env) (id : Nat) : e.same e id := ⟨rfl, rfl, rfl⟩
theorem Env.same.trans {e e' e'' : Env} {id : Nat} (h : e.same e' id) (k : e'.same e'' id) : e.same e'' id := ⟨k.1.trans h.1, k.2.1.trans h.2.1, k.2.2.trans h.2.2⟩
theorem Env.same.symm {e e' : Env} {id : Nat} (h : e.same e' id) : e'.same e id := ⟨h.1.symm, h.2.1.symm, h.2.2.symm⟩

theorem CV.den_same {e e' : Env} (c : CV) (h : ∀ id ∈ c.ids, e.same e' id) : c.den e' = c.den e := by
  cases c with
  | val k v => rfl
  | ptr id off => have := (h id (by simp [CV.ids])).1; simp [CV.den, this]
  | eptr id off => have k := h id (by simp [CV.ids]); simp [CV.den, k.blk, k.off]
  | sl id off len cap => have := (h id (by simp [CV.ids])).1; simp [CV.den, this]
  | ext id => exact (h id (by simp [CV.ids])).slv
  | fn f caps =>
    simp only [CV.den, Value.func.injEq, true_and]
    congr 1
    refine List.map_congr_left fun p hp => ?_
    have := (h p.1 (by simp only [CV.ids, List.mem_map]; exact ⟨p, hp, rfl⟩)).1
    simp [Env.ptr, this]
  | bm f cs =>
    have : cs.map (bmDen e') = cs.map (bmDen e) := List.map_congr_left fun p hp => by
      cases p with
      | inl v => rfl
      | inr id => exact (h id (by simp only [CV.ids, List.mem_flatMap]; exact ⟨_, hp, by simp [bmIds]⟩)).slv
      | sl id off len cap => simp only [bmDen, (h id (by simp only [CV.ids, List.mem_flatMap]; exact ⟨_, hp, by simp [bmIds]⟩)).1]
    simp only [CV.den, this]
  | tab k n l => rfl
theorem cvs_den_same {e e' : Env} (cs : List CV) (h : ∀ id ∈ cs.flatMap CV.ids, e.same e' id) : cs.map (CV.den e') = cs.map (CV.den e) :=
  List.map_congr_left fun c hc => c.den_same fun id hi => h id (List.mem_flatMap.2 ⟨c, hc, hi⟩)
theorem SV.den_same {e e' : Env} (s : SV) (h : ∀ id ∈ s.ids, e.same e' id) : s.den e' = s.den e := by
  cases s with
  | one c => exact c.den_same h
  | agg cs => simp only [SV.den]; rw [cvs_den_same cs h]
theorem RV.den_same {e e' : Env} (r : RV) (h : ∀ id ∈ r.ids, e.same e' id) : r.den e' = r.den e := by
  cases r with
  | sv s => exact s.den_same h
  | tup l =>
    simp only [RV.den]
    rw [List.map_congr_left fun s hs => s.den_same fun id hi => h id (List.mem_flatMap.2 ⟨s, hs, hi⟩)]
  | dead => rfl

theorem SV.den_ofVal (e : Env) (k : Bool) (v : Value) : (SV.ofVal k v).den e = v := by
  cases v <;> simp [SV.ofVal, SV.den, CV.den, Function.comp_def]
theorem RV.den_ofVal (e : Env) (k : Bool) (v : Value) : (RV.ofVal k v).den e = v := by
  cases v <;> simp [RV.ofVal, RV.den, SV.den_ofVal, Function.comp_def]
theorem SV.ids_ofVal (k : Bool) (v : Value) : (SV.ofVal k v).ids = [] := by
  cases v <;> simp [SV.ofVal, SV.ids, CV.ids]
theorem RV.ids_ofVal (k : Bool) (v : Value) : (RV.ofVal k v).ids = [] := by
  cases v <;> simp [RV.ofVal, RV.ids, SV.ids_ofVal]
theorem RV.ofVal_live (k : Bool) (v : Value) : (RV.ofVal k v).isDead = false := by
  cases v <;> rfl
theorem CV.cells_den (e : Env) {c : CV} (h : c.plain = true) : (c.den e).cells = #[c.den e] := by
  cases c with
  | val k v => cases v <;> simp_all [CV.plain, CV.den, Value.cells]
  | tab k n l => simp [CV.plain] at h
  | _ => rfl
theorem SV.cells_den (e : Env) {s : SV} (h : s.plain = true) : (s.den e).cells = (s.cells.map (CV.den e)).toArray := by
  cases s with
  | one c => simp only [SV.den, SV.cells, List.map_cons, List.map_nil]; exact CV.cells_den e h
  | agg cs => rfl

theorem heap_some_lt {w : World} {n : Nat} {o : Obj} (h : w.heap[n]? = some o) : n < w.heap.size := by
  rcases Nat.lt_or_ge n w.heap.size with h' | h'
  · exact h'
  · rw [Array.getElem?_eq_none h'] at h; cases h
/-- What it hangs on is there. -/
theorem HO.foot_lt {e : Env} {w : World} {id b : Nat} {o : HO} (h : o.holds e w id) (hf : o.foot e id b) : b < w.heap.size := by
  cases o with
  | cells cs t => rw [show b = e.ρ id from hf]; exact heap_some_lt h
  | grid sh l => exact h.2 b hf
  | row sh t l =>
    rcases hf with hf | hf
    · obtain ⟨⟨d, xs, ho, _⟩, _⟩ := h
      exact (ho.lt b hf).2
    · exact (h.2 b hf).1
  | lent cs t => rw [show b = e.ρ id from hf]; exact heap_some_lt h
  | _ => exact False.elim hf
theorem cell_of_heap {w w' : World} {a : Addr} (h : w'.heap[a.block]? = w.heap[a.block]?) : w'.cell? a = w.cell? a := by
  unfold World.cell?; rw [h]
theorem ownsRow_next {w w' : World} {base : Nat} {t : TypeId} {size : Nat} {v : Value} {n : Nat} {xs : List Value} (h : w.ownsRow base t size v n xs) (hb : ∀ b, v.ownBlock = some b → w'.heap[b]? = w.heap[b]?) : w'.ownsRow base t size v n xs := by
  refine ⟨h.1, ?_⟩
  rcases h.2 with hn | ⟨g, cap, cur, rfl, hg, hgg, rest⟩
  · exact .inl hn
  · exact .inr ⟨g, cap, cur, rfl, hg, by rw [hb g rfl]; exact hgg, rest⟩
/-- It goes on where the blocks on which it hangs are left as they were. -/
theorem HO.holds_next {e e' : Env} {w w' : World} {id : Nat} {o : HO} (h : o.holds e w id) (hid : e.same e' id) (hids : ∀ i ∈ o.ids, e.same e' i)
    (hb : ∀ b, o.foot e id b → w'.heap[b]? = w.heap[b]?) (hsz : w.heap.size ≤ w'.heap.size) : o.holds e' w' id := by
  cases o with
  | cells cs t =>
    simp only [HO.holds] at h ⊢
    rw [hid.1, cvs_den_same cs hids, hb _ rfl]; exact h
  | grid sh l =>
    obtain ⟨⟨d, hr⟩, hlt⟩ := h
    refine ⟨⟨d, ?_⟩, fun b hb' => ?_⟩
    · rw [hid.slv, hid.2.2]
      exact hr.mono (fun b hf => ⟨hf, hb b hf⟩) (fun _ _ _ => CtHolds.mono fun b hf => ⟨hf, hb b hf⟩)
    · rw [hid.2.2] at hb'; exact Nat.lt_of_lt_of_le (hlt b hb') hsz
  | row sh t l =>
    obtain ⟨⟨d, xs, ho, hc⟩, hlt⟩ := h
    refine ⟨⟨d, xs, ?_, fun i hi j s hs => ?_⟩, fun b hb' => ?_⟩
    · rw [hid.slv]; exact ownsRow_next ho fun b hf => hb b (.inl hf)
    · obtain ⟨u, hu, hh⟩ := hc i hi j s hs
      exact ⟨u, hu, by rw [hid.2.2]; exact hh.mono fun b hf => ⟨hf, hb b (.inr hf)⟩⟩
    · rw [hid.2.2] at hb'
      rw [hid.slv]
      exact ⟨Nat.lt_of_lt_of_le (hlt b hb').1 hsz, (hlt b hb').2⟩
  | elem id' i w' =>
    have k := hids id' (by simp [HO.ids])
    simp only [HO.holds] at h ⊢
    rw [k.2.1, hid.2.1]; exact h
  | gone => trivial
  | tie g k x =>
    have q := hids k (by simp [HO.ids])
    simp only [HO.holds] at h ⊢
    rw [q.2.1]; exact h
  | part id' i w' n =>
    have k := hids id' (by simp [HO.ids])
    simp only [HO.holds] at h ⊢
    rw [k.2.1, hid.2.1]; exact h
  | lent cs t =>
    simp only [HO.holds] at h ⊢
    rw [hid.1, cvs_den_same cs hids, hb _ rfl]; exact h
theorem HO.foot_same {e e' : Env} {id b : Nat} {o : HO} (hid : e.same e' id) : o.foot e' id b ↔ o.foot e id b := by
  cases o <;> simp [HO.foot, hid.1, hid.slv, hid.2.2]
theorem HO.owns_same {e e' : Env} {id b : Nat} {o : HO} (hid : e.same e' id) : o.owns e' id b ↔ o.owns e id b := by
  cases o <;> simp [HO.owns, hid.1, hid.slv]
/-- o lies where o0 lay. -/
def Kle (o0 o : HO) : Prop := ∀ e id b, o.foot e id b → o0.foot e id b ∧ (o.owns e id b ↔ o0.owns e id b)
theorem Kle.refl (o : HO) : Kle o o := fun _ _ _ h => ⟨h, Iff.rfl⟩
theorem Kle.trans {a b c : HO} (h : Kle a b) (k : Kle b c) : Kle a c := fun e id x hx =>
  ⟨(h e id x (k e id x hx).1).1, ((k e id x hx).2).trans (h e id x (k e id x hx).1).2⟩
theorem Kle.owns {a b : HO} (h : Kle a b) {e : Env} {id x : Nat} (hx : b.owns e id x) : a.owns e id x := (h e id x (HO.owns_foot hx)).2.1 hx
def kle : HO → HO → Bool
  | .cells _ _, .cells _ _ => true
  | .row _ _ _, .row _ _ _ => true
  | .cells _ _, .gone => true
  | .row _ _ _, .gone => true
  | .cells _ _, .tie _ _ _ => true
  | .row _ _ _, .tie _ _ _ => true
  | .row _ _ _, .part _ _ _ _ => true
  | _, _ => false
theorem kle_spec {o0 o : HO} (h : kle o0 o = true) : Kle o0 o := by
  intro e id b hf
  cases o0 <;> cases o <;> first | (cases h; done) | (exact ⟨hf, Iff.rfl⟩) | (exact False.elim hf)

theorem hlook_append (l l' : Hp) (id : Nat) : hlook (l ++ l') id = (match hlook l id with | some o => some o | none => hlook l' id) := by
  induction l with
  | nil => rfl
  | cons p l ih =>
    obtain ⟨i, o⟩ := p
    simp only [List.cons_append, hlook]
    cases Nat.beq i id <;> simp [ih]
theorem hlook_mem {l : Hp} {id : Nat} {o : HO} (h : hlook l id = some o) : (id, o) ∈ l := by
  induction l with
  | nil => simp [hlook] at h
  | cons p l ih =>
    obtain ⟨i, o'⟩ := p
    simp only [hlook] at h
    cases hb : Nat.beq i id with
    | true =>
      rw [hb] at h
      simp only [cond_true, Option.some.injEq] at h
      rw [Nat.eq_of_beq_eq_true hb, h]; exact List.mem_cons_self
    | false => rw [hb] at h; exact List.mem_cons_of_mem _ (ih h)
theorem hlook_of_mem {l : Hp} {id : Nat} {o : HO} (h : (id, o) ∈ l) : ∃ o', hlook l id = some o' := by
  induction l with
  | nil => cases h
  | cons p l ih =>
    obtain ⟨i, o'⟩ := p
    simp only [hlook]
    cases hb : Nat.beq i id with
    | true => exact ⟨o', rfl⟩
    | false =>
      rcases List.mem_cons.1 h with h' | h'
      · cases h'; rw [Nat.beq_refl] at hb; cases hb
      · exact ih h'

/-- The part of a heap under some names. -/
def restrict (hp : Hp) : List Nat → Hp
  | [] => []
  | id :: r => match hlook hp id with
    | some o => (id, o) :: restrict hp r
    | none => restrict hp r
theorem hlook_restrict {hp : Hp} {R : List Nat} {id : Nat} {o : HO} (h : hlook (restrict hp R) id = some o) : id ∈ R ∧ hlook hp id = some o := by
  induction R with
  | nil => simp [restrict, hlook] at h
  | cons i R ih =>
    simp only [restrict] at h
    split at h
    · rename_i o' ho
      simp only [hlook] at h
      cases hb : Nat.beq i id with
      | true =>
        rw [hb] at h
        simp only [cond_true, Option.some.injEq] at h
        subst h
        rw [← Nat.eq_of_beq_eq_true hb]
        exact ⟨List.mem_cons_self, ho⟩
      | false => rw [hb] at h; exact ⟨List.mem_cons_of_mem _ (ih h).1, (ih h).2⟩
    · exact ⟨List.mem_cons_of_mem _ (ih h).1, (ih h).2⟩
def reach (hp : Hp) : Nat → List Nat → List Nat → List Nat
  | 0, _, seen => seen
  | _ + 1, [], seen => seen
  | n + 1, id :: rest, seen =>
    bif seen.any (Nat.beq id) then reach hp n rest seen else
    match hlook hp id with
    | some o => reach hp n (o.ids ++ rest) (id :: seen)
    | none => reach hp n rest seen

/-- A piece of the model that touches no memory. -/
def symPure {α : Type} (P : Program) : Sem α → Option α
  | .pure a => some a
  | .program k => symPure P (k P)
  | .mark _ k => symPure P k
  | _ => none
theorem symPure_run {α : Type} {P : Program} : ∀ (s : Sem α) (v : α), symPure P s = some v → ∀ w, s.run P w = .ok v w := by
  intro s
  induction s with
  | pure a => intro v h w; simp [symPure] at h; subst h; rfl
  | program k ih => intro v h w; simp only [symPure] at h; exact ih P v h w
  | mark m k ih => intro v h w; simp only [symPure] at h; exact ih v h w
  | _ => intro v h; simp [symPure] at h

/-- What comes of an operation: the value; the blocks that are new, or hold something else; the next name; the names that were written. -/
structure Out where
  v : RV
  up : Hp
  nx : Nat
  W : List Nat
structure PostOp (e e' : Env) (h : Nat → Option HO) (nx : Nat) (out : Out) (w w' : World) : Prop where
  agree : ∀ id, id < nx ∨ out.nx ≤ id → e.same e' id
  os : w'.os = w.os
  tape : w'.tape = w.tape
  output : w'.output = w.output
  size : w.heap.size ≤ w'.heap.size
  fr : ∀ k, k < w.heap.size → (∀ id ∈ out.W, ∀ o, h id = some o → ¬ o.owns e id k) → w'.heap[k]? = w.heap[k]?
  sat : Sat e' (hlook out.up) w'
  own : ∀ id o b, hlook out.up id = some o → o.owns e' id b → w.heap.size ≤ b ∨ ∃ id0 ∈ out.W, ∃ o0, h id0 = some o0 ∧ o0.owns e id0 b
  foot : ∀ id o b, hlook out.up id = some o → o.foot e' id b → w.heap.size ≤ b ∨ (∃ id0 ∈ out.W, ∃ o0, h id0 = some o0 ∧ o0.owns e id0 b) ∨ ∃ id0 o0, h id0 = some o0 ∧ o0.foot e id0 b ∧ ¬ o0.owns e id0 b
def OpOk (P : Program) (o : Oper) (get : Operand → RV) (hp : Hp) (nx : Nat) (out : Out) : Prop :=
  ∀ (e : Env) (a : Act) (w : World), (∀ x ∈ o.op.operands, a.eval x = (get x).den e) → Sat e (hlook hp) w → ∀ (K : Act → World → Prop) (Q : Exit → Act → World → Prop),
    (∀ e' w', PostOp e e' (hlook hp) nx out w w' → K (a.put o.dst (out.v.den e')) w') → o.wp P a w K Q
def CallOk (P : Program) (f : FuncId) (args : List RV) (hp : Hp) (nx : Nat) (out : Out) : Prop :=
  ∀ (e : Env) (w : World), Sat e (hlook hp) w → Calls P f (args.map (RV.den e)).toArray w fun en w' => ∃ e', en = .returned (out.v.den e') ∧ PostOp e e' (hlook hp) nx out w w'
theorem PostOp.none (e : Env) (h : Nat → Option HO) (nx nx' : Nat) (v : RV) (w : World) : PostOp e e h nx ⟨v, [], nx', []⟩ w w :=
  ⟨fun _ _ => .refl _ _, rfl, rfl, rfl, Nat.le_refl _, fun _ _ _ => rfl, ⟨fun _ _ h => by simp [hlook] at h, fun _ _ h => by simp [hlook] at h⟩, fun _ _ _ h => by simp [hlook] at h, fun _ _ _ h => by simp [hlook] at h⟩
end Go.Proofs.Ytonlllijdbjkaaa

/- A symbolic way through the code of a call: each operation by itself. No condition. -/
set_option linter.unusedVariables false
namespace Go.Proofs.Ytonlllijdbjkaaa
open Go.RowKit

def isAggP (P : Program) (t : TypeId) : Option Bool :=
  match P.underlying t with
  | some (.struct _) => some true
  | some (.array _ _) => some true
  | some _ => some false
  | none => none
def sizeP (P : Program) (t : TypeId) : Option Nat := (P.info? t).map (·.size)
def ldCells (P : Program) (t : TypeId) (cs : List CV) (off : Nat) : Option SV :=
  match isAggP P t with
  | some true => (match sizeP P t with
    | some n => bif Nat.ble (off + n) cs.length then some (.agg ((cs.drop off).take n)) else none
    | none => none)
  | some false => (match cs[off]? with
    | some c => some (.one c)
    | none => none)
  | none => none
def stCells (cs : List CV) (off : Nat) (xs : List CV) : List CV := cs.take off ++ xs ++ cs.drop (off + xs.length)
def fillCV (place : Nat → Option (Nat × Nat)) (cs : List CV) : List (Nat × SV) → Option (List CV)
  | [] => some cs
  | (i, s) :: rest =>
    match place i with
    | none => none
    | some (off, size) => bif s.plain && Nat.beq s.cells.length size && Nat.ble (off + size) cs.length then fillCV place (stCells cs off s.cells) rest else none
def partsSV (get : Operand → RV) : List (Nat × Operand) → Option (List (Nat × SV))
  | [] => some []
  | (i, x) :: r => match get x, partsSV get r with
    | .sv s, some l => some ((i, s) :: l)
    | _, _ => none
def intOfRV : RV → Option Int
  | .sv (.one (.val _ (.int _ n))) => some n
  | _ => none
/-- The cells of a row from the column j on; what lies in a cell that is a slice gets a name. -/
def rowCV (l : List (List Ct)) (i : Nat) : List Sh → Nat → Nat → List CV
  | [], _, _ => []
  | .int k :: sh, j, nx => .val false (.int k (rd l i j).int) :: rowCV l i sh (j + 1) nx
  | .bool :: sh, j, nx => .val false (.bool (rd l i j).bool) :: rowCV l i sh (j + 1) nx
  | .str :: sh, j, nx => .val false (.string (rd l i j).str) :: rowCV l i sh (j + 1) nx
  | .sl _ :: sh, j, nx => .ext nx :: rowCV l i sh (j + 1) (nx + 1)
  | .fn _ :: sh, j, nx => .val true undef :: rowCV l i sh (j + 1) nx
/-- No functions. -/
def noFn (sh : List Sh) : Bool := sh.all fun s => !s.isFn
def rowHp (l : List (List Ct)) (i : Nat) : List Sh → Nat → Nat → Hp
  | [], _, _ => []
  | .sl e :: sh, j, nx => (nx, .grid e (rd l i j).rows) :: rowHp l i sh (j + 1) (nx + 1)
  | _ :: sh, j, nx => rowHp l i sh (j + 1) nx
def rowNx : List Sh → Nat → Nat
  | [], nx => nx
  | .sl _ :: sh, nx => rowNx sh (nx + 1)
  | _ :: sh, nx => rowNx sh nx
def capsOf (get : Operand → RV) : List Operand → Option (List (Nat × Nat))
  | [] => some []
  | x :: r => match get x, capsOf get r with
    | .sv (.one (.ptr id off)), some l => some ((id, off) :: l)
    | _, _ => none
def env0 : Env := ⟨fun _ => 0, fun _ => (none, 0, 0), fun _ _ => False⟩
def pureOp (P : Program) (o : Oper) (get : Operand → RV) (nx : Nat) : Option Out :=
  bif o.op.operands.toList.all (fun x => (get x).ids.isEmpty) then
    match symPure P (execOp (fun x => (get x).den env0) o) with
    | some (.value v) => some ⟨RV.ofVal (o.op.operands.toList.all fun x => (get x).known) v, [], nx, []⟩
    | _ => none
  else none
/-- Equality of values that are made of numbers. -/
def partSym (P : Program) (t : TypeId) (cs : Array Value) (off : Nat) : Option Value := symPure P (part t cs off)
mutual
def eqSym (P : Program) : Nat → TypeId → Value → Value → Option Bool
  | 0, _, _, _ => none
  | d + 1, t, x, y =>
    match P.underlying t, x, y with
    | some (.int _), .int k a, .int k' b => if k = k' then some (a == b) else none
    | some .bool, .bool a, .bool b => some (a == b)
    | some .string, .string a, .string b => some (a.toList == b.toList)
    | some (.struct fs), .agg xs, .agg ys => bif P.stoodInHeld t then none else eqFsSym P d xs ys fs.toList
    | some (.array n e), .agg xs, .agg ys => match sizeP P e with
      | some s => eqArrSym P d e xs ys s n 0
      | none => none
    | _, _, _ => none
def eqFsSym (P : Program) : Nat → Array Value → Array Value → List Field → Option Bool
  | 0, _, _, _ => none
  | _ + 1, _, _, [] => some true
  | d + 1, xs, ys, f :: fs =>
    if f.name ≠ "_" then
      match partSym P f.type xs f.offset, partSym P f.type ys f.offset with
      | some a, some b => (match eqSym P d f.type a b, eqFsSym P d xs ys fs with
        | some r, some r' => some (r && r')
        | _, _ => none)
      | _, _ => none
    else eqFsSym P d xs ys fs
def eqArrSym (P : Program) : Nat → TypeId → Array Value → Array Value → Nat → Nat → Nat → Option Bool
  | 0, _, _, _, _, _, _ => none
  | _ + 1, _, _, _, _, 0, _ => some true
  | d + 1, e, xs, ys, s, n + 1, i =>
    match partSym P e xs (i * s), partSym P e ys (i * s) with
    | some a, some b => (match eqSym P d e a b, eqArrSym P d e xs ys s n (i + 1) with
      | some r, some r' => some (r && r')
      | _, _ => none)
    | _, _ => none
end

def eqRange (D : Nat) (e : TypeId) (s : Nat) (xs ys : Array Value) : List Nat → Sem Bool
  | [] => pure true
  | i :: is => do
    let a ← part e xs (i * s)
    let b ← part e ys (i * s)
    let r ← Op.equalIn D e a b
    if (!r) = true then pure false else eqRange D e s xs ys is
theorem run_equalIn_array {P : Program} (w : World) (d : Nat) (t e : TypeId) (n s : Nat) (xs ys : Array Value) (ht : P.underlying t = some (.array n e)) (hs : sizeP P e = some s) :
    (Op.equalIn (d + 1) t (.agg xs) (.agg ys)).run P w = (eqRange d e s xs ys (List.range' 0 n)).run P w := by
  obtain ⟨i, hi, rfl⟩ := Option.map_eq_some_iff.1 hs
  have hc : P.cellsOf e = i.size := by simp [Program.cellsOf, hi]
  simp only [Op.equalIn, Sem.run_bind, run_underlying ht, Result.andThen_ok, run_sizeOf w hi, hc]
  rw [Std.Legacy.Range.forIn_eq_forIn_range']
  simp only [Std.Legacy.Range.size, Nat.sub_zero, Nat.add_sub_cancel, Nat.div_one]
  generalize List.range' 0 n = l
  induction l generalizing w with
  | nil => simp [eqRange]
  | cons j l ih =>
    simp only [List.forIn_cons, eqRange, Sem.run_bind]
    generalize (part e xs (j * i.size)).run P w = r1
    cases r1 with
    | ok a w1 =>
      simp only [Result.andThen_ok]
      generalize (part e ys (j * i.size)).run P w1 = r2
      cases r2 with
      | ok b w2 =>
        simp only [Result.andThen_ok]
        generalize (Op.equalIn d e a b).run P w2 = r3
        cases r3 with
        | ok r w3 =>
          cases r
          · simp only [Result.andThen_ok, Bool.not_false, if_true, Sem.run_pure]
          · simp only [Result.andThen_ok, Bool.not_true, Bool.false_eq_true, if_false, Sem.run_pure]
            exact ih w3
        | halt x w3 => simp [Result.andThen]
      | halt x w2 => simp [Result.andThen]
    | halt x w1 => simp [Result.andThen]
theorem eq_ok (P : Program) : ∀ d, (∀ t x y b, eqSym P d t x y = some b → ∀ D, d ≤ D → ∀ w, (Op.equalIn D t x y).run P w = .ok b w) ∧
    (∀ xs ys fs b, eqFsSym P d xs ys fs = some b → ∀ D, d ≤ D → ∀ w, (Op.eqFields D xs ys fs).run P w = .ok b w) ∧
    (∀ e xs ys s n i b, eqArrSym P d e xs ys s n i = some b → ∀ D, d ≤ D → ∀ w, (eqRange D e s xs ys (List.range' i n)).run P w = .ok b w) := by
  intro d
  induction d with
  | zero => exact ⟨fun _ _ _ _ h => by simp [eqSym] at h, fun _ _ _ _ h => by simp [eqFsSym] at h, fun _ _ _ _ _ _ _ h => by simp [eqArrSym] at h⟩
  | succ d ih =>
    obtain ⟨ih1, ih2, ih3⟩ := ih
    refine ⟨?_, ?_, ?_⟩
    · intro t x y b h D hD w
      obtain ⟨D, rfl⟩ : ∃ D', D = D' + 1 := ⟨D - 1, by omega⟩
      unfold eqSym at h
      split at h
      · rename_i k1 k a k' b' hu
        split at h
        · rename_i hk
          subst hk
          cases h
          exact run_equalIn_int w D t k k1 a b' hu
        · cases h
      · rename_i a b' hu
        cases h
        exact run_equalIn_bool w D t a b' hu
      · rename_i a b' hu
        cases h
        exact run_equalIn_string w D t a b' hu
      · rename_i fs xs ys hu
        cases hp : P.stoodInHeld t with
        | true => rw [hp] at h; simp at h
        | false =>
          rw [hp] at h
          simp only [cond_false] at h
          have hf : P.fieldsOf t = fs := by simp [Program.fieldsOf, hu]
          rw [run_equalIn_struct w D t xs ys (by rw [hf]; exact hu) hp, hf]
          exact ih2 _ _ _ _ h D (by omega) w
      · rename_i n e xs ys hu
        cases hs : sizeP P e with
        | none => rw [hs] at h; simp at h
        | some s =>
          rw [hs] at h
          simp only at h
          rw [run_equalIn_array w D t e n s xs ys hu hs]
          exact ih3 _ _ _ _ _ _ _ h D (by omega) w
      · cases h
    · intro xs ys fs b h D hD w
      cases fs with
      | nil => simp only [eqFsSym, Option.some.injEq] at h; subst h; simp [Op.eqFields]
      | cons f fs =>
        unfold eqFsSym at h
        split at h
        · rename_i hn
          split at h
          · rename_i a b1 ha hb
            split at h
            · rename_i r r' hr hr'
              cases h
              simp only [Op.eqFields, hn, ne_eq, not_false_eq_true, if_true, Sem.run_bind, symPure_run _ _ ha, symPure_run _ _ hb, Result.andThen_ok, ih1 _ _ _ _ hr D (by omega)]
              cases r
              · simp
              · simp only [Bool.not_true, Bool.false_eq_true, if_false, Bool.true_and]
                exact ih2 _ _ _ _ hr' D (by omega) w
            · cases h
          · cases h
        · rename_i hn
          simp only [Op.eqFields, hn, if_false]
          exact ih2 _ _ _ _ h D (by omega) w
    · intro e xs ys s n i b h D hD w
      cases n with
      | zero => simp only [eqArrSym, Option.some.injEq] at h; subst h; simp [eqRange]
      | succ n =>
        unfold eqArrSym at h
        split at h
        · rename_i a b1 ha hb
          split at h
          · rename_i r r' hr hr'
            cases h
            simp only [List.range'_succ, eqRange, Sem.run_bind, symPure_run _ _ ha, symPure_run _ _ hb, Result.andThen_ok, ih1 _ _ _ _ hr D (by omega)]
            cases r
            · simp
            · simp only [Bool.not_true, Bool.false_eq_true, if_false, Bool.true_and]
              exact ih3 _ _ _ _ _ _ _ hr' D (by omega) w
          · cases h
        · cases h
end Go.Proofs.Ytonlllijdbjkaaa

/- A symbolic way through the code of a call: what each operation answers, and that it does. No condition. -/
set_option linter.unusedVariables false
namespace Go.Proofs.Ytonlllijdbjkaaa
open Go.RowKit

/-- A value, nothing else. -/
def Out.val (nx : Nat) (v : RV) : Out := ⟨v, [], nx, []⟩
/-- The rows of a slice of an open length. -/
def HO.ls : HO → Option (List Sh × List (List Ct))
  | .grid sh l => some (sh, l)
  | .row sh _ l => some (sh, l)
  | _ => none
def opMove (get : Operand → RV) (nx : Nat) (x : Operand) : Option Out := some (.val nx (get x))
def opAlloc (P : Program) (nx : Nat) (t : TypeId) : Option Out :=
  match symPure P (zeroValue t) with
  | some v => some ⟨.sv (.one (.ptr nx 0)), [(nx, .cells (v.cells.toList.map (.val true)) t)], nx + 1, []⟩
  | none => none
def opBox (get : Operand → RV) (nx : Nat) (t : TypeId) (x : Operand) : Option Out :=
  match get x with
  | .sv s => bif s.plain then some ⟨.sv (.one (.ptr nx 0)), [(nx, .cells s.cells t)], nx + 1, []⟩ else none
  | _ => none
def opLoad (P : Program) (get : Operand → RV) (hp : Hp) (nx : Nat) (t : TypeId) (x : Operand) : Option Out :=
  match get x with
  | .sv (.one (.ptr id off)) => (match hlook hp id with
    | some (.cells cs _) => (match ldCells P t cs off with
      | some s => some (.val nx (.sv s))
      | none => none)
    | _ => none)
  | _ => none
def opStore (P : Program) (get : Operand → RV) (hp : Hp) (nx : Nat) (t : TypeId) (x y : Operand) : Option Out :=
  match get x, get y with
  | .sv (.one (.ptr id off)), .sv s => (match hlook hp id, sizeP P t with
    | some (.cells cs ty), some n => bif s.plain && Nat.beq s.cells.length n && Nat.ble (off + n) cs.length then
        some ⟨RV.und, [(id, .cells (stCells cs off s.cells) ty), (id, .elem id off n)], nx, [id]⟩ else none
    | _, _ => none)
  | _, _ => none
def opNilCheck (get : Operand → RV) (nx : Nat) (x : Operand) : Option Out :=
  match get x with
  | .sv (.one (.ptr id off)) => some (.val nx (.sv (.one (.ptr id off))))
  | .sv (.one (.eptr id off)) => some (.val nx (.sv (.one (.eptr id off))))
  | .sv (.one (.fn f c)) => some (.val nx (.sv (.one (.fn f c))))
  | _ => none
def fieldP (P : Program) (t : TypeId) (f : Nat) : Option Field :=
  match P.underlying t with
  | some (.struct fs) => fs[f]?
  | _ => none
def opFieldAddr (P : Program) (get : Operand → RV) (nx : Nat) (t : TypeId) (x : Operand) (f : Nat) : Option Out :=
  match fieldP P t f with
  | some fl => (match sizeP P fl.type with
    | some (n + 1) => (match get x with
      | .sv (.one (.ptr id off)) => some (.val nx (.sv (.one (.ptr id (off + fl.offset)))))
      | .sv (.one (.eptr id off)) => some (.val nx (.sv (.one (.eptr id (off + fl.offset)))))
      | _ => none)
    | _ => none)
  | none => none
def opField (P : Program) (get : Operand → RV) (nx : Nat) (t : TypeId) (x : Operand) (f : Nat) : Option Out :=
  match fieldP P t f, get x with
  | some fl, .sv (.agg cs) => (match ldCells P fl.type cs fl.offset with
    | some s => some (.val nx (.sv s))
    | none => none)
  | _, _ => none
def inB (i : Int) (n : Nat) : Bool := match i with | .ofNat k => Nat.ble (k + 1) n | _ => false
/-- The address of an element: of an array, of a slice of one's own, by a known number. -/
def opIndexAddr (P : Program) (get : Operand → RV) (nx : Nat) (t : TypeId) (x i : Operand) : Option Out :=
  match intOfRV (get i), P.underlying t, get x with
  | some n, some (.array len e), .sv (.one (.ptr id off)) => (match sizeP P e with
    | some s => bif inB n len then some (.val nx (.sv (.one (.ptr id (off + n.toNat * s))))) else none
    | none => none)
  | some n, some (.slice e), .sv (.one (.sl id off len cap)) => (match sizeP P e with
    | some s => bif inB n len then some (.val nx (.sv (.one (.ptr id (off + n.toNat * s))))) else none
    | none => none)
  | some n, some (.array len e), .sv (.one (.eptr id off)) => (match sizeP P e with
    | some s => bif inB n len then some (.val nx (.sv (.one (.eptr id (off + n.toNat * s))))) else none
    | none => none)
  | _, _, _ => none
def opIndex (P : Program) (get : Operand → RV) (nx : Nat) (t : TypeId) (x i : Operand) : Option Out :=
  match intOfRV (get i), P.underlying t, get x with
  | some n, some (.array len e), .sv (.agg cs) => (match sizeP P e with
    | some s => bif inB n len then (match ldCells P e cs (n.toNat * s) with
        | some r => some (.val nx (.sv r))
        | none => none) else none
    | none => none)
  | _, _, _ => none
def opExtract (get : Operand → RV) (nx : Nat) (x : Operand) (i : Nat) : Option Out :=
  match get x with
  | .tup l => (match l[i]? with
    | some s => some (.val nx (.sv s))
    | none => none)
  | _ => none
def placesP (P : Program) (t : TypeId) : Option (Nat → Option (Nat × Nat)) :=
  match P.underlying t with
  | some (.array _ e) => (match P.info? e with
    | some ie => some fun i => some (i * ie.size, ie.size)
    | none => none)
  | some (.struct fields) => (match fields.toList.mapM (fun f => (P.info? f.type).map fun i => (f.offset, i.size)) with
    | some places => some (places.toArray[·]?)
    | none => none)
  | _ => none
def opBuild (P : Program) (get : Operand → RV) (nx : Nat) (t : TypeId) (parts : Array (Nat × Operand)) : Option Out :=
  match (P.info? t).bind (·.zero), placesP P t, partsSV get parts.toList with
  | some z, some place, some ps => (match fillCV place (z.cells.toList.map (.val true)) ps with
    | some cs => some (.val nx (.sv (.agg cs)))
    | none => none)
  | _, _, _ => none
def opBuildSlice (P : Program) (get : Operand → RV) (nx : Nat) (t : TypeId) (len : Nat) (parts : Array (Nat × Operand)) : Option Out :=
  match P.underlying t with
  | some (.slice e) => (match sizeP P e, (P.info? e).bind (·.zero), partsSV get parts.toList with
    | some s, some z, some ps => bif Nat.ble (len * s) 4096 && Nat.blt 0 s && Nat.beq z.cells.size s then
        (match fillCV (fun i => some (i * s, s)) ((List.range (len * s)).map fun j => .val true (z.cells.getD (j % s) undef)) ps with
        | some cs => some ⟨.sv (.one (.sl nx 0 len len)), [(nx, .cells cs e)], nx + 1, []⟩
        | none => none) else none
    | _, _, _ => none)
  | _ => none
/-- A receiver's cells, kept for a bound method. -/
def bmOf : List CV → Option (List (BV))
  | [] => some []
  | .val _ v :: r => (match bmOf r with | some l => some (.inl v :: l) | none => none)
  | .ext id :: r => (match bmOf r with | some l => some (.inr id :: l) | none => none)
  | .sl id off len cap :: r => (match bmOf r with | some l => some (.sl id off len cap :: l) | none => none)
  | _ => none
def opMakeFunc (get : Operand → RV) (nx : Nat) (fn : Fn) (first caps : Array Operand) : Option Out :=
  match fn, first.toList, capsOf get caps.toList with
  | .func f, [], some l => some (.val nx (.sv (.one (.fn f l))))
  | .func f, [x], some [] => (match get x with
    | .sv (.agg cs) => (match bmOf cs with
      | some l => some (.val nx (.sv (.one (.bm f l))))
      | none => none)
    | _ => none)
  | _, _, _ => none
def boolOut (k : Bool) (nx : Nat) (b : Bool) : Out := .val nx (.sv (.one (.val k (.bool b))))
def opBin (P : Program) (o : Oper) (get : Operand → RV) (nx : Nat) (op : BinOp) (t : TypeId) (x y : Operand) : Option Out :=
  match get x, get y with
  | .sv (.agg xs), .sv (.agg ys) =>
    bif xs.all (fun c => c.ids.isEmpty) && ys.all (fun c => c.ids.isEmpty) && !P.eqGuardType P.depth t then
      (match op, eqSym P 64 t ((SV.agg xs).den env0) ((SV.agg ys).den env0) with
      | .eql, some b => some (boolOut (xs.all CV.known && ys.all CV.known) nx b)
      | .neq, some b => some (boolOut (xs.all CV.known && ys.all CV.known) nx (!b))
      | _, _ => none) else none
  | _, _ => pureOp P o get nx
def opLen (P : Program) (o : Oper) (get : Operand → RV) (hp : Hp) (nx : Nat) (t : TypeId) (x : Operand) : Option Out :=
  match get x with
  | .sv (.one (.sl id off len cap)) => (match P.underlying t with
    | some (.slice _) => some (.val nx (.sv (.one (.val true (.int .i64 len)))))
    | _ => none)
  | .sv (.one (.ext id)) => (match P.underlying t, (hlook hp id).bind HO.ls with
    | some (.slice _), some p => some (.val nx (.sv (.one (.val false (.int .i64 p.2.length)))))
    | _, _ => none)
  | _ => pureOp P o get nx
def opPick (get : Operand → RV) (nx : Nat) (c a b : Operand) : Option Out :=
  match get c with
  | .sv (.one (.val _ (.bool d))) => some (.val nx (bif d then get a else get b))
  | _ => none
/-- What an operation answers that enters no function. -/
def simple (P : Program) (o : Oper) (get : Operand → RV) (hp : Hp) (nx : Nat) : Option Out :=
  match o.op with
  | .move x => opMove get nx x
  | .assign x => opMove get nx x
  | .pick c a b => opPick get nx c a b
  | .alloc t => opAlloc P nx t
  | .box t x => opBox get nx t x
  | .load t x => opLoad P get hp nx t x
  | .store t x y => opStore P get hp nx t x y
  | .nilCheck x => opNilCheck get nx x
  | .fieldAddr t x f => opFieldAddr P get nx t x f
  | .field t x f => opField P get nx t x f
  | .indexAddr t x i => opIndexAddr P get nx t x i
  | .index t x i => opIndex P get nx t x i
  | .extract x i => opExtract get nx x i
  | .build t ps => opBuild P get nx t ps
  | .buildSlice t n ps => opBuildSlice P get nx t n ps
  | .makeFunc f a b => opMakeFunc get nx f a b
  | .binOp op t x y _ => opBin P o get nx op t x y
  | .unOp _ _ _ => pureOp P o get nx
  | .convert _ _ _ => pureOp P o get nx
  | .call c => (match c.callee, c.args.toList, c.argTypes.toList with
    | .builtin .len, [x], [t] => opLen P o get hp nx t x
    | .builtin .min, _, _ => pureOp P o get nx
    | .builtin .max, _, _ => pureOp P o get nx
    | _, _, _ => none)
  | _ => none

/-- The names are old ones. -/
structure WfOp (get : Operand → RV) (o : Oper) (hp : Hp) (nx : Nat) : Prop where
  get : ∀ x ∈ o.op.operands, ∀ id ∈ (get x).ids, id < nx
  hp : ∀ id ob, hlook hp id = some ob → id < nx ∧ ∀ i ∈ ob.ids, i < nx
theorem wp_value {P : Program} {o : Oper} {a : Act} {w w' : World} {v : Value} {K : Act → World → Prop} {Q : Exit → Act → World → Prop}
    (h : (execOp a.eval o).run P w = .ok (.value v) w') (hK : K (a.put o.dst v) w') : o.wp P a w K Q := by
  unfold Oper.wp; rw [h]; exact hK
theorem wp_skipped {P : Program} {o : Oper} {a : Act} {w w' : World} {K : Act → World → Prop} {Q : Exit → Act → World → Prop}
    (h : (execOp a.eval o).run P w = .ok .skip w') (hK : K (a.put o.dst undef) w') : o.wp P a w K Q := by
  unfold Oper.wp; rw [h]; exact hK
/-- A value, the world as it was. -/
theorem OpOk.val {P : Program} {o : Oper} {get : Operand → RV} {hp : Hp} {nx : Nat} {v : RV}
    (h : ∀ (e : Env) (a : Act) (w : World), (∀ x ∈ o.op.operands, a.eval x = (get x).den e) → Sat e (hlook hp) w → (execOp a.eval o).run P w = .ok (.value (v.den e)) w) : OpOk P o get hp nx (.val nx v) :=
  fun e a w hx hs K Q hK => wp_value (h e a w hx hs) (hK e w (PostOp.none e _ nx nx v w))

theorem pureOp_ok {P : Program} {o : Oper} {get : Operand → RV} {hp : Hp} {nx : Nat} {out : Out} (hsel : ∀ cs b, o.op ≠ .select cs b) (h : pureOp P o get nx = some out) : OpOk P o get hp nx out := by
  unfold pureOp at h
  cases hall : o.op.operands.toList.all (fun x => (get x).ids.isEmpty) with
  | false => rw [hall] at h; cases h
  | true =>
    rw [hall] at h
    simp only [cond_true] at h
    split at h
    · rename_i v hv
      cases h
      refine OpOk.val fun e a w hx hs => ?_
      rw [RV.den_ofVal, execOp_congr (ρ' := fun x => (get x).den env0) o hsel fun x hm => ?_]
      · exact symPure_run _ _ hv w
      · rw [hx x hm]
        have := List.all_eq_true.1 hall x (by simpa using hm)
        simp only [List.isEmpty_iff] at this
        exact (RV.den_same _ fun id hi => by rw [this] at hi; cases hi).symm
    · cases h

theorem opMove_ok {P : Program} {o : Oper} {get : Operand → RV} {hp : Hp} {nx : Nat} {out : Out} {x : Operand} (ho : o.op = .move x ∨ o.op = .assign x) (h : opMove get nx x = some out) : OpOk P o get hp nx out := by
  cases h
  refine OpOk.val fun e a w hx hs => ?_
  have := hx x (by rcases ho with ho | ho <;> rw [ho] <;> simp [Op.operands])
  rcases ho with ho | ho <;> simp only [execOp, ho] <;> rw [← this] <;> rfl

/-- A new block. -/
def Env.set (e : Env) (id b : Nat) : Env := { e with ρ := fun i => if i = id then b else e.ρ i }
theorem Env.set_same {e : Env} {id b i : Nat} (h : i ≠ id) : e.same (e.set id b) i := ⟨by simp [Env.set, h], rfl, rfl⟩
theorem hlook_one {n id : Nat} {ob o : HO} (h : hlook [(n, ob)] id = some o) : id = n ∧ o = ob := by
  have := hlook_mem h
  simpa using this
theorem PostOp.new {e : Env} {hp : Hp} {nx : Nat} {w : World} {v : RV} {cs : List CV} {t : TypeId} (hids : ∀ i ∈ cs.flatMap CV.ids, i < nx) :
    PostOp e (e.set nx w.heap.size) (hlook hp) nx ⟨v, [(nx, .cells cs t)], nx + 1, []⟩ w (w.alloc (.cells (cs.map (CV.den e)).toArray t)) := by
  have hden : cs.map (CV.den (e.set nx w.heap.size)) = cs.map (CV.den e) := cvs_den_same cs fun i hi => Env.set_same (Nat.ne_of_lt (hids i hi))
  refine ⟨fun id hid => Env.set_same (by simp only at hid; omega), rfl, rfl, rfl, by simp, fun k hk _ => Below.heap_alloc _ _ _ hk, ⟨?_, ?_⟩, ?_, ?_⟩
  · intro id o ho
    obtain ⟨rfl, rfl⟩ := hlook_one ho
    simp only [HO.holds, hden]
    exact heap_new _ _ _ (by simp [Env.set])
  · intro id o ho id' o' ho' hne
    obtain ⟨rfl, _⟩ := hlook_one ho
    obtain ⟨rfl, _⟩ := hlook_one ho'
    exact absurd rfl hne
  · intro id o b ho hf
    obtain ⟨rfl, rfl⟩ := hlook_one ho
    left
    rw [show b = _ from hf]
    simp [Env.set]
  · intro id o b ho hf
    obtain ⟨rfl, rfl⟩ := hlook_one ho
    left
    rw [show b = _ from hf]
    simp [Env.set]
theorem opAlloc_ok {P : Program} {o : Oper} {get : Operand → RV} {hp : Hp} {nx : Nat} {out : Out} {t : TypeId} (ho : o.op = .alloc t) (h : opAlloc P nx t = some out) : OpOk P o get hp nx out := by
  unfold opAlloc at h
  split at h
  · rename_i v hv
    cases h
    intro e a w hx hs K Q hK
    refine wp_value (w' := w.alloc (.cells v.cells t)) (v := .pointer (some ⟨w.heap.size, 0, none⟩)) ?_ ?_
    · simp only [execOp, ho, Instr.alloc, Sem.run_bind, symPure_run _ _ hv, Result.andThen_ok]
      rfl
    · have := hK _ _ (PostOp.new (e := e) (hp := hp) (nx := nx) (w := w) (v := .sv (.one (.ptr nx 0))) (cs := v.cells.toList.map (.val true)) (t := t) (by simp [List.flatMap_map, CV.ids]))
      simp only [List.map_map, Function.comp_def, CV.den, List.map_id', Array.toArray_toList] at this
      simpa [RV.den, SV.den, CV.den, Env.set] using this
  · cases h
theorem opBox_ok {P : Program} {o : Oper} {get : Operand → RV} {hp : Hp} {nx : Nat} {out : Out} {t : TypeId} {x : Operand} (hwf : WfOp get o hp nx) (ho : o.op = .box t x) (h : opBox get nx t x = some out) : OpOk P o get hp nx out := by
  unfold opBox at h
  split at h
  · rename_i s hs
    cases hp' : s.plain with
    | false => rw [hp'] at h; cases h
    | true =>
      rw [hp'] at h
      cases h
      intro e a w hx hsat K Q hK
      have hx' := hx x (by rw [ho]; simp [Op.operands])
      have hw := hwf.get x (by rw [ho]; simp [Op.operands])
      rw [hs] at hx' hw
      refine wp_value (w' := w.alloc (.cells (s.cells.map (CV.den e)).toArray t)) (v := .pointer (some ⟨w.heap.size, 0, none⟩)) ?_ ?_
      · simp only [execOp, ho, Instr.box, hx', RV.den, newVar, newRow, SV.cells_den e hp']
        rfl
      · have := hK _ _ (PostOp.new (e := e) (hp := hp) (nx := nx) (w := w) (v := .sv (.one (.ptr nx 0))) (cs := s.cells) (t := t) (fun i hi => hw i (by
          cases s with
          | one c => simpa [SV.cells, RV.ids, SV.ids] using hi
          | agg cs => simpa [SV.cells, RV.ids, SV.ids] using hi)))
        simpa [RV.den, SV.den, CV.den, Env.set] using this
  · cases h

theorem addr_add (b o j : Nat) : (⟨b, o, none⟩ : Addr).add j = ⟨b, o + j, none⟩ := by unfold Addr.add; split <;> simp_all
theorem isAgg_run {P : Program} {t : TypeId} {r : Bool} (h : isAggP P t = some r) (w : World) : (isAgg t).run P w = .ok r w := by
  unfold isAggP at h
  split at h <;> simp_all [isAgg, run_underlying]
theorem sizeP_run {P : Program} {t : TypeId} {n : Nat} (h : sizeP P t = some n) (w : World) : (sizeOf t).run P w = .ok n w := by
  obtain ⟨i, hi, rfl⟩ := Option.map_eq_some_iff.1 h
  simp [sizeOf, typeInfo, hi]
theorem ldCells_load {P : Program} {t : TypeId} {cs : List CV} {off b o : Nat} {s : SV} {e : Env} {w : World} (h : ldCells P t cs off = some s) (hc : ∀ (j : Nat) c, cs[j]? = some c → w.cell? ⟨b, o + j, none⟩ = some (c.den e)) :
    (loadVar t ⟨b, o + off, none⟩).run P w = .ok (s.den e) w := by
  unfold ldCells at h
  split at h
  · rename_i ha
    split at h
    · rename_i n hn
      cases hb : Nat.ble (off + n) cs.length with
      | false => rw [hb] at h; cases h
      | true =>
        rw [hb] at h
        cases h
        have hle := Nat.le_of_ble_eq_true hb
        have hl : (((cs.drop off).take n).map (CV.den e)).length = n := by simp; omega
        have := run_loadCells_list (P := P) w ⟨b, o + off, none⟩ (((cs.drop off).take n).map (CV.den e)) (fun j v hj => by
          rw [addr_add]
          simp only [List.getElem?_map, Option.map_eq_some_iff, List.getElem?_take, List.getElem?_drop] at hj
          obtain ⟨c, hc', rfl⟩ := hj
          split at hc'
          · rw [show o + off + j = o + (off + j) by omega]; exact hc _ c hc'
          · cases hc')
        rw [hl] at this
        simp only [loadVar, Sem.run_bind, isAgg_run ha, Result.andThen_ok, if_true, sizeP_run hn, this]
        rfl
    · cases h
  · rename_i ha
    split at h
    · rename_i c hcs
      cases h
      simp only [loadVar, Sem.run_bind, isAgg_run ha, Result.andThen_ok, Bool.false_eq_true, if_false, run_load, hc off c hcs]
      rfl
    · cases h
  · cases h
theorem ldCells_part {P : Program} {t : TypeId} {cs : List CV} {off : Nat} {s : SV} {e : Env} (w : World) (h : ldCells P t cs off = some s) :
    (part t (cs.map (CV.den e)).toArray off).run P w = .ok (s.den e) w := by
  unfold ldCells at h
  split at h
  · rename_i ha
    split at h
    · rename_i n hn
      cases hb : Nat.ble (off + n) cs.length with
      | false => rw [hb] at h; cases h
      | true =>
        rw [hb] at h
        cases h
        simp only [part, Sem.run_bind, isAgg_run ha, Result.andThen_ok, if_true, sizeP_run hn, Sem.run_pure]
        simp [SV.den, List.extract_toArray, List.extract_eq_take_drop, List.map_take, List.map_drop]
    · cases h
  · rename_i ha
    split at h
    · rename_i c hcs
      cases h
      simp only [part, Sem.run_bind, isAgg_run ha, Result.andThen_ok, Bool.false_eq_true, if_false]
      have : (cs.map (CV.den e)).toArray[off]? = some (c.den e) := by simp [hcs]
      rw [this]
      rfl
    · cases h
  · cases h
theorem blk_cell' {w : World} {n i : Nat} {C : Array Value} {T : TypeId} {fr : Nat × Nat} {v : Value} (h : w.heap[n]? = some (.cells C T fr)) (hi : C[i]? = some v) : w.cell? ⟨n, i, none⟩ = some v := by
  simp [World.cell?, h, hi]
theorem holds_cells_cell {e : Env} {w : World} {id : Nat} {cs : List CV} {t : TypeId} (h : (HO.cells cs t).holds e w id) (j : Nat) (c : CV) (hj : cs[j]? = some c) : w.cell? ⟨e.ρ id, 0 + j, none⟩ = some (c.den e) := by
  rw [Nat.zero_add]
  exact blk_cell' h (by simp [hj])
theorem opLoad_ok {P : Program} {o : Oper} {get : Operand → RV} {hp : Hp} {nx : Nat} {out : Out} {t : TypeId} {x : Operand} (ho : o.op = .load t x) (h : opLoad P get hp nx t x = some out) : OpOk P o get hp nx out := by
  unfold opLoad at h
  split at h
  · rename_i id off hg
    split at h
    · rename_i cs ty hl
      split at h
      · rename_i s hld
        cases h
        refine OpOk.val fun e a w hx hs => ?_
        have hx' := hx x (by rw [ho]; simp [Op.operands])
        rw [hg] at hx'
        simp only [execOp, ho, Instr.loadAt, hx', RV.den, SV.den, CV.den, Instr.sureAddr, Sem.run_bind, Sem.run_pure, Result.andThen_ok]
        have := ldCells_load hld (holds_cells_cell (hs.holds _ _ hl))
        rw [Nat.zero_add] at this
        rw [this]
        rfl
      · cases h
    · cases h
  · cases h

theorem stCells_length {cs xs : List CV} {off : Nat} (h : off + xs.length ≤ cs.length) : (stCells cs off xs).length = cs.length := by
  simp [stCells]; omega
theorem stCells_ids {cs xs : List CV} {off i : Nat} (h : i ∈ (stCells cs off xs).flatMap CV.ids) : i ∈ cs.flatMap CV.ids ∨ i ∈ xs.flatMap CV.ids := by
  simp only [stCells, List.flatMap_append, List.mem_append] at h
  rcases h with (h | h) | h
  · obtain ⟨c, hc, hi⟩ := List.mem_flatMap.1 h
    exact .inl (List.mem_flatMap.2 ⟨c, List.mem_of_mem_take hc, hi⟩)
  · exact .inr h
  · obtain ⟨c, hc, hi⟩ := List.mem_flatMap.1 h
    exact .inl (List.mem_flatMap.2 ⟨c, List.mem_of_mem_drop hc, hi⟩)
theorem plain_one (e : Env) {c : CV} (h : c.plain = true) : (c.den e).oneCell' = true := by
  cases c with
  | val k v => cases v <;> simp_all [CV.plain, CV.den, Value.oneCell']
  | tab k n l => simp [CV.plain] at h
  | _ => rfl
theorem splain_one (e : Env) {s : SV} (h : s.plain = true) : ∀ v ∈ s.cells.map (CV.den e), v.oneCell' = true := by
  intro v hv
  obtain ⟨c, hc, rfl⟩ := List.mem_map.1 hv
  cases s with
  | one c' => simp only [SV.cells, List.mem_singleton] at hc; subst hc; exact plain_one e h
  | agg cs => exact plain_one e (List.all_eq_true.1 h c hc)
theorem setRow_other (w : World) (g k : Nat) (cs : Array Value) (h : k ≠ g) : (w.setRow g cs).heap[k]? = w.heap[k]? := by
  simp only [World.setRow, Array.getElem?_modify]
  rw [if_neg (by omega)]
/-- An entry under a name that stands already is not seen. -/
theorem PostOp.log {e e' : Env} {h : Nat → Option HO} {nx nx' id : Nat} {v : RV} {a b : HO} {W : List Nat} {w w' : World} (k : PostOp e e' h nx ⟨v, [(id, a)], nx', W⟩ w w') : PostOp e e' h nx ⟨v, [(id, a), (id, b)], nx', W⟩ w w' := by
  have hl : hlook [(id, a), (id, b)] = hlook [(id, a)] := by
    funext i
    simp only [hlook]
    cases Nat.beq id i <;> rfl
  exact ⟨k.agree, k.os, k.tape, k.output, k.size, k.fr, by rw [hl]; exact k.sat, by rw [hl]; exact k.own, by rw [hl]; exact k.foot⟩
theorem opStore_ok {P : Program} {o : Oper} {get : Operand → RV} {hp : Hp} {nx : Nat} {out : Out} {t : TypeId} {x y : Operand} (hwf : WfOp get o hp nx) (ho : o.op = .store t x y) (h : opStore P get hp nx t x y = some out) : OpOk P o get hp nx out := by
  unfold opStore at h
  split at h
  · rename_i id off s hgx hgy
    split at h
    · rename_i cs ty n hl hn
      cases hb : (s.plain && Nat.beq s.cells.length n && Nat.ble (off + n) cs.length) with
      | false => rw [hb] at h; cases h
      | true =>
        rw [hb] at h
        cases h
        simp only [Bool.and_eq_true] at hb
        obtain ⟨⟨hb1, hb2⟩, hb3⟩ := hb
        have hb2 := Nat.eq_of_beq_eq_true hb2
        have hb3 := Nat.le_of_ble_eq_true hb3
        subst hb2
        intro e a w hx hsat K Q hK
        have hx1 := hx x (by rw [ho]; simp [Op.operands])
        have hx2 := hx y (by rw [ho]; simp [Op.operands])
        rw [hgx] at hx1
        rw [hgy] at hx2
        have hc := hsat.holds _ _ hl
        simp only [HO.holds] at hc
        have hrun := run_storeCells_at (P := P) (e.ρ id) off ty (s.cells.map (CV.den e)) 0 _ w hc (by simpa using hb3) (splain_one e hb1)
        have hrow : ((cs.map (CV.den e)).toArray.toList.take (off + 0) ++ s.cells.map (CV.den e) ++ (cs.map (CV.den e)).toArray.toList.drop (off + 0 + (s.cells.map (CV.den e)).length)).toArray = ((stCells cs off s.cells).map (CV.den e)).toArray := by
          simp [stCells, List.map_take, List.map_drop]
        rw [hrow] at hrun
        have hlt := heap_some_lt hc
        refine wp_skipped (w' := w.setRow (e.ρ id) ((stCells cs off s.cells).map (CV.den e)).toArray) ?_ ?_
        · have hx1' : a.eval x = .pointer (some ⟨e.ρ id, off, none⟩) := hx1
          have hx2' : a.eval y = s.den e := hx2
          simp only [execOp, ho, Instr.storeAt, hx1', hx2', Instr.sureAddr, Sem.run_bind, Sem.run_pure, Result.andThen_ok, storeVar]
          rw [SV.cells_den e hb1]
          simp only [sizeP_run hn, Result.andThen_ok, List.size_toArray, List.length_map, ne_eq, not_true_eq_false, if_false]
          rw [hrun]
          rfl
        · refine hK e _ (PostOp.log ⟨fun _ _ => .refl _ _, rfl, rfl, rfl, ?_, ?_, ⟨?_, ?_⟩, ?_, ?_⟩)
          · simp [World.setRow]
          · intro k hk hne
            exact setRow_other _ _ _ _ (fun h' => hne id (by simp) _ hl h')
          · intro id' o' ho'
            obtain ⟨rfl, rfl⟩ := hlook_one ho'
            exact setRow_heap w _ _ _ ty (0, 0) hc
          · intro id1 o1 ho1 id2 o2 ho2 hne
            exact absurd ((hlook_one ho1).1.trans (hlook_one ho2).1.symm) hne
          · intro id' o' b ho' hf
            obtain ⟨rfl, rfl⟩ := hlook_one ho'
            exact .inr ⟨_, by simp, _, hl, hf⟩
          · intro id' o' b ho' hf
            obtain ⟨rfl, rfl⟩ := hlook_one ho'
            exact .inr (.inl ⟨_, by simp, _, hl, hf⟩)
    · cases h
  · cases h
theorem opNilCheck_ok {P : Program} {o : Oper} {get : Operand → RV} {hp : Hp} {nx : Nat} {out : Out} {x : Operand} (ho : o.op = .nilCheck x) (h : opNilCheck get nx x = some out) : OpOk P o get hp nx out := by
  unfold opNilCheck at h
  split at h
  all_goals first | (cases h; done) | skip
  all_goals
    rename_i hg
    cases h
    refine OpOk.val fun e a w hx hs => ?_
    have hx' := hx x (by rw [ho]; simp [Op.operands])
    rw [hg] at hx'
    simp only [execOp, ho, hx', RV.den, SV.den, CV.den]
    rfl
theorem fieldPlace_run {P : Program} {fl : Field} {n : Nat} (h : sizeP P fl.type = some (n + 1)) (a : Addr) (w : World) : (fieldPlace a fl).run P w = .ok (a.add fl.offset) w := by
  simp [fieldPlace, sizeP_run h]
theorem fieldP_spec {P : Program} {t : TypeId} {f : Nat} {fl : Field} (h : fieldP P t f = some fl) : ∃ fs : Array Field, P.underlying t = some (.struct fs) ∧ fs[f]? = some fl := by
  unfold fieldP at h
  split at h
  · rename_i fs hu; exact ⟨fs, hu, h⟩
  · cases h
theorem opFieldAddr_ok {P : Program} {o : Oper} {get : Operand → RV} {hp : Hp} {nx : Nat} {out : Out} {t : TypeId} {x : Operand} {f : Nat} (ho : o.op = .fieldAddr t x f) (h : opFieldAddr P get nx t x f = some out) : OpOk P o get hp nx out := by
  unfold opFieldAddr at h
  split at h
  · rename_i fl hf
    obtain ⟨fs, hu, hfl⟩ := fieldP_spec hf
    split at h
    · rename_i n hn
      split at h
      all_goals first | (cases h; done) | skip
      all_goals
        rename_i hg
        cases h
        refine OpOk.val fun e a w hx hs => ?_
        have hx' := hx x (by rw [ho]; simp [Op.operands])
        rw [hg] at hx'
        simp only [execOp, ho, hx', RV.den, SV.den, CV.den, Instr.fieldAt, Sem.run_bind, run_underlying hu, Result.andThen_ok, hfl, Instr.sureAddr, Sem.run_pure, fieldPlace_run hn, addr_add, Nat.add_assoc]
    · cases h
  · cases h
theorem opField_ok {P : Program} {o : Oper} {get : Operand → RV} {hp : Hp} {nx : Nat} {out : Out} {t : TypeId} {x : Operand} {f : Nat} (ho : o.op = .field t x f) (h : opField P get nx t x f = some out) : OpOk P o get hp nx out := by
  unfold opField at h
  split at h
  · rename_i fl cs hf hg
    obtain ⟨fs, hu, hfl⟩ := fieldP_spec hf
    split at h
    · rename_i s hld
      cases h
      refine OpOk.val fun e a w hx hs => ?_
      have hx' := hx x (by rw [ho]; simp [Op.operands])
      rw [hg] at hx'
      simp only [execOp, ho, hx', RV.den, SV.den, Instr.field, Sem.run_bind, run_underlying hu, Result.andThen_ok, hfl, asAgg, Sem.run_pure]
      rw [ldCells_part w hld]
      rfl
    · cases h
  · cases h
theorem inB_spec {i : Int} {n : Nat} (h : inB i n = true) : 0 ≤ i ∧ i < n := by
  unfold inB at h
  split at h
  · rename_i k; have := Nat.le_of_ble_eq_true h; simp only [Int.ofNat_eq_natCast]; omega
  · cases h
theorem intOfRV_spec {r : RV} {n : Int} (h : intOfRV r = some n) (e : Env) : ∃ k, r.den e = .int k n := by
  unfold intOfRV at h
  split at h
  · cases h; exact ⟨_, rfl⟩
  · cases h
theorem opIndexAddr_ok {P : Program} {o : Oper} {get : Operand → RV} {hp : Hp} {nx : Nat} {out : Out} {t : TypeId} {x i : Operand} (ho : o.op = .indexAddr t x i) (h : opIndexAddr P get nx t x i = some out) : OpOk P o get hp nx out := by
  unfold opIndexAddr at h
  split at h
  · rename_i n len el id off hi hu hg
    split at h
    · rename_i s hs
      cases hb : inB n len with
      | false => rw [hb] at h; cases h
      | true =>
        rw [hb] at h
        cases h
        refine OpOk.val fun e a w hx hsat => ?_
        have hx1 := hx x (by rw [ho]; simp [Op.operands])
        have hx2 := hx i (by rw [ho]; simp [Op.operands])
        obtain ⟨k, hk⟩ := intOfRV_spec hi e
        rw [hg] at hx1
        rw [hk] at hx2
        simp only [execOp, ho, hx1, hx2, RV.den, SV.den, CV.den, Instr.indexAt, asIntOf, Sem.run_bind, run_underlying hu, Result.andThen_ok, Instr.sureAddr, Sem.run_pure]
        simp only [inB_spec hb, and_self, if_true, Sem.run_bind, sizeP_run hs, Result.andThen_ok, Sem.run_pure, addr_add]
    · cases h
  · rename_i n el id off len cap hi hu hg
    split at h
    · rename_i s hs
      cases hb : inB n len with
      | false => rw [hb] at h; cases h
      | true =>
        rw [hb] at h
        cases h
        refine OpOk.val fun e a w hx hsat => ?_
        have hx1 := hx x (by rw [ho]; simp [Op.operands])
        have hx2 := hx i (by rw [ho]; simp [Op.operands])
        obtain ⟨k, hk⟩ := intOfRV_spec hi e
        rw [hg] at hx1
        rw [hk] at hx2
        simp only [execOp, ho, hx1, hx2, RV.den, SV.den, CV.den, Instr.indexAt, asIntOf, Sem.run_bind, run_underlying hu, Result.andThen_ok, Instr.sureAddr, Sem.run_pure]
        simp only [inB_spec hb, and_self, if_true, Sem.run_bind, sizeP_run hs, Result.andThen_ok, Sem.run_pure, addr_add]
    · cases h
  · rename_i n len el id off hi hu hg
    split at h
    · rename_i s hs
      cases hb : inB n len with
      | false => rw [hb] at h; cases h
      | true =>
        rw [hb] at h
        cases h
        refine OpOk.val fun e a w hx hsat => ?_
        have hx1 := hx x (by rw [ho]; simp [Op.operands])
        have hx2 := hx i (by rw [ho]; simp [Op.operands])
        obtain ⟨k, hk⟩ := intOfRV_spec hi e
        rw [hg] at hx1
        rw [hk] at hx2
        simp only [execOp, ho, hx1, hx2, RV.den, SV.den, CV.den, Instr.indexAt, asIntOf, Sem.run_bind, run_underlying hu, Result.andThen_ok, Instr.sureAddr, Sem.run_pure]
        simp only [inB_spec hb, and_self, if_true, Sem.run_bind, sizeP_run hs, Result.andThen_ok, Sem.run_pure, addr_add, Nat.add_assoc]
    · cases h
  · cases h
theorem opIndex_ok {P : Program} {o : Oper} {get : Operand → RV} {hp : Hp} {nx : Nat} {out : Out} {t : TypeId} {x i : Operand} (ho : o.op = .index t x i) (h : opIndex P get nx t x i = some out) : OpOk P o get hp nx out := by
  unfold opIndex at h
  split at h
  · rename_i n len el cs hi hu hg
    split at h
    · rename_i s hs
      cases hb : inB n len with
      | false => rw [hb] at h; cases h
      | true =>
        rw [hb] at h
        simp only [cond_true] at h
        split at h
        · rename_i r hld
          cases h
          refine OpOk.val fun e a w hx hsat => ?_
          have hx1 := hx x (by rw [ho]; simp [Op.operands])
          have hx2 := hx i (by rw [ho]; simp [Op.operands])
          obtain ⟨k, hk⟩ := intOfRV_spec hi e
          rw [hg] at hx1
          rw [hk] at hx2
          simp only [execOp, ho, hx1, hx2, RV.den, SV.den, Instr.index, asIntOf, Sem.run_bind, run_underlying hu, Result.andThen_ok, Sem.run_pure]
          simp only [inB_spec hb, and_self, if_true, Sem.run_bind, sizeP_run hs, Result.andThen_ok]
          rw [ldCells_part w hld]
          rfl
        · cases h
    · cases h
  · cases h
theorem opExtract_ok {P : Program} {o : Oper} {get : Operand → RV} {hp : Hp} {nx : Nat} {out : Out} {x : Operand} {i : Nat} (ho : o.op = .extract x i) (h : opExtract get nx x i = some out) : OpOk P o get hp nx out := by
  unfold opExtract at h
  split at h
  · rename_i l hg
    split at h
    · rename_i s hs
      cases h
      refine OpOk.val fun e a w hx hsat => ?_
      have hx1 := hx x (by rw [ho]; simp [Op.operands])
      rw [hg] at hx1
      have : (l.map (SV.den e)).toArray[i]? = some (s.den e) := by simp [hs]
      simp only [execOp, ho, hx1, RV.den, Instr.extract, this]
      rfl
    · cases h
  · cases h

theorem setMany (cells : Array Value) (off : Nat) (vs : List Value) (h : off + vs.length ≤ cells.size) :
    vs.zipIdx.foldl (fun cs (p : Value × Nat) => cs.setIfInBounds (off + p.2) p.1) cells = (cells.toList.take off ++ vs ++ cells.toList.drop (off + vs.length)).toArray := by
  have key : ∀ (vs : List Value) (k : Nat) (cs : Array Value), off + k + vs.length ≤ cs.size →
      (vs.zipIdx k).foldl (fun cs (p : Value × Nat) => cs.setIfInBounds (off + p.2) p.1) cs = (cs.toList.take (off + k) ++ vs ++ cs.toList.drop (off + k + vs.length)).toArray := by
    intro vs
    induction vs with
    | nil => intro k cs _; simp
    | cons v vs ih =>
      intro k cs hk
      simp only [List.length_cons] at hk
      rw [List.zipIdx_cons, List.foldl_cons, ih (k + 1) _ (by simp; omega)]
      congr 1
      have := list_seg_step cs.toList (off + k) v vs (by simp; omega)
      simp only [Array.toList_setIfInBounds, List.length_cons]
      rw [show off + (k + 1) = off + k + 1 by omega]
      exact this
  have := key vs 0 cells (by omega)
  simpa using this
theorem fill_den (e : Env) {place : Nat → Option (Nat × Nat)} : ∀ (ps : List (Nat × SV)) (cs cs' : List CV), fillCV place cs ps = some cs' →
    Instr.fill place (cs.map (CV.den e)).toArray (ps.map fun p => (p.1, p.2.den e)) = some (cs'.map (CV.den e)).toArray := by
  intro ps
  induction ps with
  | nil => intro cs cs' h; simp only [fillCV, Option.some.injEq] at h; subst h; rfl
  | cons p ps ih =>
    obtain ⟨i, s⟩ := p
    intro cs cs' h
    simp only [fillCV] at h
    split at h
    · cases h
    · rename_i off size hpl
      cases hb : (s.plain && Nat.beq s.cells.length size && Nat.ble (off + size) cs.length) with
      | false => rw [hb] at h; cases h
      | true =>
        rw [hb] at h
        simp only [cond_true] at h
        simp only [Bool.and_eq_true] at hb
        obtain ⟨⟨hb1, hb2⟩, hb3⟩ := hb
        have hb2 := Nat.eq_of_beq_eq_true hb2
        have hb3 := Nat.le_of_ble_eq_true hb3
        have := ih _ _ h
        simp only [List.map_cons, Instr.fill, hpl, SV.cells_den e hb1]
        rw [if_neg (by simp; omega)]
        rw [← this]
        congr 1
        have h1 := setMany (cs.map (CV.den e)).toArray off (s.cells.map (CV.den e)) (by simp; omega)
        rw [← Array.foldl_toList]
        simp only [Array.toList_zipIdx]
        rw [show (fun (cs : Array Value) (x : Value × Nat) => match x with | (c, j) => cs.setIfInBounds (off + j) c) = (fun cs (p : Value × Nat) => cs.setIfInBounds (off + p.2) p.1) from rfl]
        rw [h1]
        simp [stCells, List.map_take, List.map_drop]
theorem partsSV_spec {get : Operand → RV} {ρ : Operand → Value} {e : Env} : ∀ (l : List (Nat × Operand)) (ps : List (Nat × SV)), partsSV get l = some ps → (∀ p ∈ l, ρ p.2 = (get p.2).den e) →
    l.map (fun p => (p.1, ρ p.2)) = ps.map (fun p => (p.1, p.2.den e)) := by
  intro l
  induction l with
  | nil => intro ps h _; simp only [partsSV, Option.some.injEq] at h; subst h; rfl
  | cons p l ih =>
    obtain ⟨i, x⟩ := p
    intro ps h hx
    simp only [partsSV] at h
    split at h
    · rename_i s l' hg hl'
      cases h
      have h0 := hx (i, x) (by simp)
      simp only at h0
      rw [List.map_cons, List.map_cons, ih _ hl' fun p hp => hx p (by simp [hp])]
      simp only [h0, hg, RV.den]
    · cases h
theorem opBuild_ok {P : Program} {o : Oper} {get : Operand → RV} {hp : Hp} {nx : Nat} {out : Out} {t : TypeId} {parts : Array (Nat × Operand)} (ho : o.op = .build t parts) (h : opBuild P get nx t parts = some out) : OpOk P o get hp nx out := by
  unfold opBuild at h
  split at h
  · rename_i z place ps hz hpl hps
    split at h
    · rename_i cs hcs
      cases h
      refine OpOk.val fun e a w hx hsat => ?_
      obtain ⟨it, hit, hzz⟩ := Option.bind_eq_some_iff.1 hz
      have hp' := partsSV_spec (ρ := a.eval) (e := e) parts.toList ps hps (fun p hp => hx p.2 (by rw [ho]; simp only [Op.operands]; exact List.mem_toArray.2 (List.mem_map.2 ⟨p, hp, rfl⟩)))
      have hfill := fill_den e ps _ _ hcs
      rw [← hp'] at hfill
      simp only [List.map_map, Function.comp_def, CV.den, List.map_id', Array.toArray_toList] at hfill
      have hb : P.built t (parts.map fun p => (p.1, a.eval p.2)).toList = some (cs.map (CV.den e)).toArray := by
        unfold Program.built
        rw [hit]
        unfold placesP at hpl
        split at hpl
        · rename_i n el hu
          split at hpl
          · rename_i ie hie
            cases hpl
            simp only [hu, hzz, hie]
            simpa using hfill
          · cases hpl
        · rename_i fields hu
          split at hpl
          · rename_i places hpp
            cases hpl
            simp only [hu, hzz, hpp]
            simpa using hfill
          · cases hpl
        · cases hpl
      simp only [execOp, ho, Sem.run_bind]
      rw [show (Array.map (fun x : Nat × Operand => match x with | (i, x) => (i, a.eval x)) parts) = (parts.map fun p => (p.1, a.eval p.2)) from rfl]
      rw [run_build w t _ _ hb]
      rfl
    · cases h
  · cases h
theorem range_map_cells (z : Array Value) (n s : Nat) (hs : 0 < s) (hz : z.size = s) :
    ((Array.range n).map fun i => z[i % z.size]!) = ((((List.range n).map fun j => CV.val true (z.getD (j % s) undef)).map (CV.den env0)).toArray) := by
  apply Array.ext'
  simp only [Array.toList_map, Array.toList_range, List.map_map]
  apply List.map_congr_left
  intro i _
  have : i % s < z.size := by rw [hz]; exact Nat.mod_lt _ hs
  simp only [Function.comp_def, CV.den, hz]
  rw [getElem!_pos z _ this]
  simp [Array.getElem?_eq_getElem this]
theorem opBuildSlice_ok {P : Program} {o : Oper} {get : Operand → RV} {hp : Hp} {nx : Nat} {out : Out} {t : TypeId} {len : Nat} {parts : Array (Nat × Operand)} (hwf : WfOp get o hp nx) (hcsid : ∀ cs ty, hlook out.up nx = some (.cells cs ty) → ∀ i ∈ cs.flatMap CV.ids, i < nx) (ho : o.op = .buildSlice t len parts) (h : opBuildSlice P get nx t len parts = some out) : OpOk P o get hp nx out := by
  unfold opBuildSlice at h
  split at h
  · rename_i el hu
    split at h
    · rename_i s z ps hs hz hps
      cases hb : (Nat.ble (len * s) 4096 && Nat.blt 0 s && Nat.beq z.cells.size s) with
      | false => rw [hb] at h; cases h
      | true =>
        rw [hb] at h
        simp only [cond_true] at h
        split at h
        · rename_i cs hcs
          cases h
          simp only [Bool.and_eq_true] at hb
          obtain ⟨⟨hb1, hb2⟩, hb3⟩ := hb
          have hb1 := Nat.le_of_ble_eq_true hb1
          have hb2 := Nat.le_of_ble_eq_true hb2
          have hb3 := Nat.eq_of_beq_eq_true hb3
          obtain ⟨it, hit, hzz⟩ := Option.bind_eq_some_iff.1 hz
          intro e a w hx hsat K Q hK
          have hp' := partsSV_spec (ρ := a.eval) (e := e) parts.toList ps hps (fun p hp => hx p.2 (by rw [ho]; simp only [Op.operands]; exact List.mem_toArray.2 (List.mem_map.2 ⟨p, hp, rfl⟩)))
          have hfill := fill_den e ps _ _ hcs
          rw [← hp'] at hfill
          refine wp_value (w' := w.alloc (.cells (cs.map (CV.den e)).toArray el)) (v := .slice (some ⟨w.heap.size, 0, none⟩) len len) ?_ ?_
          · simp only [execOp, ho, Instr.buildSlice, Sem.run_bind, run_underlying hu, Result.andThen_ok, sizeP_run hs]
            have hzrun : (zeroValue el).run P w = .ok z w := by simp [zeroValue, typeInfo, hit, hzz]
            have e1 : ((List.range (len * s)).map fun j => CV.val true (z.cells.getD (j % s) undef)).map (CV.den e) = ((List.range (len * s)).map fun j => CV.val true (z.cells.getD (j % s) undef)).map (CV.den env0) := by simp [Function.comp_def, CV.den]
            rw [e1, ← range_map_cells z.cells (len * s) s hb2 hb3] at hfill
            rw [if_neg (by simp; omega)]
            have hps2 : (Array.map (fun x : Nat × Operand => match x with | (i, x) => (i, a.eval x)) parts).toList = parts.toList.map (fun p => (p.1, a.eval p.2)) := by simp
            by_cases h0 : len * s = 0
            · simp only [h0, if_true, Sem.run_bind, Sem.run_pure, Result.andThen_ok]
              rw [h0] at hfill
              rw [show (Array.map (fun i => z.cells[i % z.cells.size]!) (Array.range 0)) = #[] from by apply Array.ext'; simp] at hfill
              rw [show (Array.map (fun x => (#[] : Array Value)[x % Array.size #[]]!) (Array.range 0)) = #[] from by apply Array.ext'; simp]
              simp only [hps2, hfill]
              rfl
            · simp only [h0, if_false, Sem.run_bind, hzrun, Sem.run_pure, Result.andThen_ok]
              simp only [hps2, hfill]
              rfl
          · have := hK _ _ (PostOp.new (e := e) (hp := hp) (nx := nx) (w := w) (v := .sv (.one (.sl nx 0 len len))) (cs := cs) (t := el) (hcsid cs el (by simp [hlook])))
            simpa [RV.den, SV.den, CV.den, Env.set] using this
        · cases h
    · cases h
  · cases h
theorem capsOf_spec {get : Operand → RV} {ρ : Operand → Value} {e : Env} : ∀ (l : List Operand) (cs : List (Nat × Nat)), capsOf get l = some cs → (∀ x ∈ l, ρ x = (get x).den e) → l.map ρ = cs.map e.ptr := by
  intro l
  induction l with
  | nil => intro cs h _; simp only [capsOf, Option.some.injEq] at h; subst h; rfl
  | cons x l ih =>
    intro cs h hx
    simp only [capsOf] at h
    split at h
    · rename_i id off l' hg hl'
      cases h
      have h0 := hx x (by simp)
      rw [List.map_cons, List.map_cons, ih _ hl' fun p hp => hx p (by simp [hp]), h0, hg]
      rfl
    · cases h
theorem bmOf_spec (e : Env) : ∀ {cs : List CV} {l : List (BV)}, bmOf cs = some l → l.map (bmDen e) = cs.map (CV.den e) := by
  intro cs
  induction cs with
  | nil => intro l h; cases h; rfl
  | cons c r ih =>
    intro l h
    unfold bmOf at h
    split at h
    · cases ‹_ :: _ = []›
    · rename_i k v r' hc
      cases hc
      split at h
      · rename_i l' hl'
        cases h
        simp [bmDen, CV.den, ih hl']
      · cases h
    · rename_i id r' hc
      cases hc
      split at h
      · rename_i l' hl'
        cases h
        simp [bmDen, CV.den, ih hl']
      · cases h
    · rename_i id off len cap r' hc
      cases hc
      split at h
      · rename_i l' hl'
        cases h
        simp [bmDen, CV.den, ih hl']
      · cases h
    · cases h
theorem opMakeFunc_ok {P : Program} {o : Oper} {get : Operand → RV} {hp : Hp} {nx : Nat} {out : Out} {fn : Fn} {first caps : Array Operand} (ho : o.op = .makeFunc fn first caps) (h : opMakeFunc get nx fn first caps = some out) : OpOk P o get hp nx out := by
  unfold opMakeFunc at h
  split at h
  · rename_i f l hf hl
    cases h
    refine OpOk.val fun e a w hx hsat => ?_
    have h1 : first = #[] := by
      apply Array.ext'; simpa using hf
    have h2 := capsOf_spec (ρ := a.eval) (e := e) caps.toList l hl (fun x hx' => hx x (by rw [ho]; simp only [Op.operands, h1]; simpa using hx'))
    have h3 : caps.map a.eval = (l.map e.ptr).toArray := by apply Array.ext'; simpa using h2
    simp only [execOp, ho, Instr.makeFunc, h1, h3, Array.map_empty]
    rfl
  · rename_i f x hf hl
    split at h
    · rename_i cs hget
      split at h
      · rename_i l hbm
        cases h
        refine OpOk.val fun e a w hx hsat => ?_
        have h1 : first = #[x] := by
          apply Array.ext'; simpa using hf
        have h2 := capsOf_spec (ρ := a.eval) (e := e) caps.toList [] hl (fun x' hx' => hx x' (by rw [ho]; simp only [Op.operands, h1]; simp; exact .inr (by simpa using hx')))
        have h3 : caps.map a.eval = #[] := by apply Array.ext'; simpa using h2
        have h4 : a.eval x = .agg (cs.map (CV.den e)).toArray := by
          rw [hx x (by rw [ho]; simp [Op.operands, h1]), hget]; rfl
        simp only [execOp, ho, Instr.makeFunc, h1, h3, List.map_toArray, List.map_cons, List.map_nil, h4, ← bmOf_spec e hbm]
        rfl
      · cases h
    · cases h
  · cases h
theorem cvs_den0 {cs : List CV} (h : cs.all (fun c => c.ids.isEmpty) = true) (e : Env) : cs.map (CV.den e) = cs.map (CV.den env0) :=
  List.map_congr_left fun c hc => (c.den_same fun id hi => by
    have := List.all_eq_true.1 h c hc
    simp only [List.isEmpty_iff] at this
    rw [this] at hi; cases hi)
theorem opBin_ok {P : Program} {o : Oper} {get : Operand → RV} {hp : Hp} {nx : Nat} {out : Out} {op : BinOp} {t yt : TypeId} {x y : Operand} (ho : o.op = .binOp op t x y yt) (h : opBin P o get nx op t x y = some out) : OpOk P o get hp nx out := by
  unfold opBin at h
  split at h
  · rename_i xs ys hgx hgy
    cases hb : (xs.all (fun c => c.ids.isEmpty) && ys.all (fun c => c.ids.isEmpty) && !P.eqGuardType P.depth t) with
    | false => rw [hb] at h; cases h
    | true =>
      rw [hb] at h
      simp only [cond_true] at h
      simp only [Bool.and_eq_true, Bool.not_eq_true'] at hb
      obtain ⟨⟨hb1, hb2⟩, hb3⟩ := hb
      have main : ∀ b, eqSym P 64 t ((SV.agg xs).den env0) ((SV.agg ys).den env0) = some b → ∀ (e : Env) (a : Act) (w : World), (∀ x ∈ o.op.operands, a.eval x = (get x).den e) →
          (Op.equalIn 10000 t (.agg (xs.map (CV.den env0)).toArray) (.agg (ys.map (CV.den env0)).toArray)).run P w = .ok b w ∧ a.eval x = .agg (xs.map (CV.den env0)).toArray ∧ a.eval y = .agg (ys.map (CV.den env0)).toArray := by
        intro b hb e a w hx
        have hx1 := hx x (by rw [ho]; simp [Op.operands])
        have hx2 := hx y (by rw [ho]; simp [Op.operands])
        rw [hgx] at hx1
        rw [hgy] at hx2
        simp only [RV.den, SV.den] at hx1 hx2
        rw [cvs_den0 hb1] at hx1
        rw [cvs_den0 hb2] at hx2
        exact ⟨(eq_ok P 64).1 t _ _ b hb 10000 (by omega) w, hx1, hx2⟩
      split at h
      · rename_i b hbb
        cases h
        refine OpOk.val fun e a w hx hsat => ?_
        obtain ⟨h1, h2, h3⟩ := main b hbb e a w hx
        simp only [execOp, ho, h2, h3, Sem.run_bind, run_eqGuard_agg w _ t x y _ _ hb3, Result.andThen_ok, run_eql_struct, h1, Sem.run_pure]
        rfl
      · rename_i b hbb
        cases h
        refine OpOk.val fun e a w hx hsat => ?_
        obtain ⟨h1, h2, h3⟩ := main b hbb e a w hx
        simp only [execOp, ho, h2, h3, Sem.run_bind, run_eqGuard_agg w _ t x y _ _ hb3, Result.andThen_ok, run_neq_struct, h1, Sem.run_pure]
        rfl
      · cases h
  · exact pureOp_ok (by rw [ho]; intro cs b hh; cases hh) h

theorem HO.ext_len {e : Env} {w : World} {id : Nat} {o : HO} {p : List Sh × List (List Ct)} (h : o.holds e w id) (hl : o.ls = some p) : ∃ a cap, e.slv id = .slice a p.2.length cap := by
  cases o with
  | cells _ _ => cases hl
  | grid sh l => cases hl; obtain ⟨⟨d, a, cap, hv, _⟩, _⟩ := h; exact ⟨a, cap, hv⟩
  | row sh t l =>
    cases hl
    obtain ⟨⟨d, xs, ho, _⟩, _⟩ := h
    rcases ho.2 with ⟨hv, hn⟩ | ⟨g, cap, cur, hv, _⟩
    · exact ⟨none, 0, by rw [hv, hn]⟩
    · exact ⟨_, cap, hv⟩
  | elem _ _ _ => cases hl
  | gone => cases hl
  | tie _ _ _ => cases hl
  | part _ _ _ _ => cases hl
  | lent _ _ => cases hl
theorem opLen_ok {P : Program} {o : Oper} {get : Operand → RV} {hp : Hp} {nx : Nat} {out : Out} {t : TypeId} {x : Operand} {c : Call} (ho : o.op = .call c) (hc : c.callee = .builtin .len) (ha : c.args.toList = [x]) (hat : c.argTypes.toList = [t]) (h : opLen P o get hp nx t x = some out) : OpOk P o get hp nx out := by
  have ha' : c.args = #[x] := by apply Array.ext'; simpa using ha
  have hat' : c.argTypes = #[t] := by apply Array.ext'; simpa using hat
  have hmem : x ∈ o.op.operands := by rw [ho]; simp [Op.operands, Call.operands, ha']
  unfold opLen at h
  split at h
  · rename_i id off len cap hg
    split at h
    · rename_i el hu
      cases h
      refine OpOk.val fun e a w hx hsat => ?_
      have hx1 := hx x hmem
      rw [hg] at hx1
      have hx1' : a.eval x = .slice (some ⟨e.ρ id, off, none⟩) len cap := hx1
      have hrun : (Builtin.len_ #[t] o.type #[Value.slice (some ⟨e.ρ id, off, none⟩) len cap]).run P w = .ok (.int .i64 len) w := by simp [Builtin.len_, run_underlying hu, goInt]
      simp only [execOp, ho, resolve, hc, ha', hat', List.map_toArray, List.map_cons, List.map_nil, hx1', Sem.run_bind, Sem.run_pure, Result.andThen_ok, invoke, builtin, hrun]
      rfl
    · cases h
  · rename_i id hg
    split at h
    · rename_i el p hu hl
      cases h
      refine OpOk.val fun e a w hx hsat => ?_
      have hx1 := hx x hmem
      rw [hg] at hx1
      obtain ⟨ob, hob, hls⟩ := Option.bind_eq_some_iff.1 hl
      obtain ⟨a', cap, hv⟩ := HO.ext_len (hsat.holds _ _ hob) hls
      have hx1' : a.eval x = .slice a' p.2.length cap := by rw [hx1]; exact hv
      have hrun : (Builtin.len_ #[t] o.type #[Value.slice a' p.2.length cap]).run P w = .ok (.int .i64 p.2.length) w := by simp [Builtin.len_, run_underlying hu, goInt]
      simp only [execOp, ho, resolve, hc, ha', hat', List.map_toArray, List.map_cons, List.map_nil, hx1', Sem.run_bind, Sem.run_pure, Result.andThen_ok, invoke, builtin, hrun]
      rfl
    · cases h
  · exact pureOp_ok (by rw [ho]; intro cs b hh; cases hh) h
theorem opPick_ok {P : Program} {o : Oper} {get : Operand → RV} {hp : Hp} {nx : Nat} {out : Out} {c x y : Operand} (ho : o.op = .pick c x y) (h : opPick get nx c x y = some out) : OpOk P o get hp nx out := by
  unfold opPick at h
  split at h
  · rename_i k d hg
    cases h
    refine OpOk.val fun e a w hx hs => ?_
    have h1 := hx c (by rw [ho]; simp [Op.operands])
    have h2 := hx x (by rw [ho]; simp [Op.operands])
    have h3 := hx y (by rw [ho]; simp [Op.operands])
    rw [hg] at h1
    simp only [execOp, ho, h1, RV.den, SV.den, CV.den, asBool, Sem.run_bind, Sem.run_pure, Result.andThen_ok]
    cases d
    · simp only [Bool.false_eq_true, if_false, h3, cond_false]; rfl
    · simp only [if_true, h2, cond_true]; rfl
  · cases h
theorem simple_ok {P : Program} {o : Oper} {get : Operand → RV} {hp : Hp} {nx : Nat} {out : Out} (hwf : WfOp get o hp nx) (hup : ∀ id ob, hlook out.up id = some ob → ∀ i ∈ ob.ids, i < nx) (h : simple P o get hp nx = some out) : OpOk P o get hp nx out := by
  unfold simple at h
  split at h
  · exact opMove_ok (.inl ‹_›) h
  · exact opMove_ok (.inr ‹_›) h
  · exact opPick_ok ‹_› h
  · exact opAlloc_ok ‹_› h
  · exact opBox_ok hwf ‹_› h
  · exact opLoad_ok ‹_› h
  · exact opStore_ok hwf ‹_› h
  · exact opNilCheck_ok ‹_› h
  · exact opFieldAddr_ok ‹_› h
  · exact opField_ok ‹_› h
  · exact opIndexAddr_ok ‹_› h
  · exact opIndex_ok ‹_› h
  · exact opExtract_ok ‹_› h
  · exact opBuild_ok ‹_› h
  · exact opBuildSlice_ok hwf (fun cs ty hl i hi => hup _ _ hl i hi) ‹_› h
  · exact opMakeFunc_ok ‹_› h
  · exact opBin_ok ‹_› h
  · rename_i ho; exact pureOp_ok (by rw [ho]; intro cs b hh; cases hh) h
  · rename_i ho; exact pureOp_ok (by rw [ho]; intro cs b hh; cases hh) h
  · rename_i c ho
    split at h
    · exact opLen_ok ho ‹_› ‹_› ‹_› h
    · exact pureOp_ok (by rw [ho]; intro cs b hh; cases hh) h
    · exact pureOp_ok (by rw [ho]; intro cs b hh; cases hh) h
    · cases h
  · cases h
end Go.Proofs.Ytonlllijdbjkaaa

/- A symbolic way through the code of a call: slices of an open length: their rows are read and written. No condition. -/
set_option linter.unusedVariables false
namespace Go.Proofs.Ytonlllijdbjkaaa
open Go.RowKit

theorem HO.rowsAt {e : Env} {w : World} {id : Nat} {o : HO} {p : List Sh × List (List Ct)} (h : o.holds e w id) (hl : o.ls = some p) : ∃ d, RowsAt w (fun b => o.foot e id b) (CtHolds w (e.φ id) d) p.1 p.2 (e.slv id) := by
  cases o with
  | cells _ _ => cases hl
  | grid sh l =>
    cases hl
    obtain ⟨⟨d, hr⟩, _⟩ := h
    exact ⟨d, hr⟩
  | row sh t l =>
    cases hl
    obtain ⟨⟨d, xs, ho, hc⟩, _⟩ := h
    refine ⟨d, ?_⟩
    change RowsAt w _ _ sh l _
    rcases ho.2 with ⟨hv, hn⟩ | ⟨g, cap, cur, hv, _, hg, hnc, hcm, _⟩
    · exact ⟨none, 0, by rw [hv, hn], by omega, by omega, fun _ => rfl, fun i hi => by omega⟩
    · refine ⟨_, cap, hv, hnc, by simp only [maxLen] at hcm; omega, (fun h => by cases h), fun i hi => ⟨g, 0, rfl, .inl (by rw [hv]; rfl), fun j s hs => ?_⟩⟩
      obtain ⟨u, hu, hh⟩ := hc i hi j s hs
      refine ⟨u, ?_, hh⟩
      rw [hv] at ho
      have hlt : i * sh.length + j < l.length * sh.length := by
        obtain ⟨hlt', _⟩ := List.getElem?_eq_some_iff.1 hu
        have h1 := ho.1
        omega
      rw [Nat.zero_add, ho.cellAt _ hlt]; exact hu
  | elem _ _ _ => cases hl
  | gone => cases hl
  | tie _ _ _ => cases hl
  | part _ _ _ _ => cases hl
  | lent _ _ => cases hl
def Env.setS (e : Env) (id : Nat) (s : Option Addr × Nat × Nat) (f : Nat → Prop) : Env := ⟨e.ρ, fun i => if i = id then s else e.σ i, fun i => if i = id then f else e.φ i⟩
theorem Env.setS_same {e : Env} {id i : Nat} {s : Option Addr × Nat × Nat} {f : Nat → Prop} (h : i ≠ id) : e.same (e.setS id s f) i := ⟨rfl, by simp [Env.setS, h], by simp [Env.setS, h]⟩
theorem Env.setS_σ {e : Env} {id : Nat} {s : Option Addr × Nat × Nat} {f : Nat → Prop} : (e.setS id s f).σ id = s := by simp [Env.setS]
theorem Env.setS_φ {e : Env} {id : Nat} {s : Option Addr × Nat × Nat} {f : Nat → Prop} : (e.setS id s f).φ id = f := by simp [Env.setS]
theorem Env.setS_slv {e : Env} {id : Nat} {s : Option Addr × Nat × Nat} {f : Nat → Prop} : (e.setS id s f).slv id = .slice s.1 s.2.1 s.2.2 := by simp [Env.setS, Env.slv]
/-- Names that stand for what is only looked at. -/
theorem PostOp.view {e e' : Env} {h : Nat → Option HO} {nx nx' : Nat} {v : RV} {up : Hp} {w : World} (ha : ∀ id, id < nx ∨ nx' ≤ id → e.same e' id)
    (hu : ∀ id o, hlook up id = some o → o.holds e' w id ∧ (∀ b, ¬ o.owns e' id b) ∧ ∀ b, o.foot e' id b → ∃ id0 o0, h id0 = some o0 ∧ o0.foot e id0 b ∧ ¬ o0.owns e id0 b) : PostOp e e' h nx ⟨v, up, nx', []⟩ w w :=
  ⟨ha, rfl, rfl, rfl, Nat.le_refl _, fun _ _ _ => rfl, ⟨fun id o ho => (hu id o ho).1, fun id o ho id' o' ho' hne b hb => absurd hb ((hu id o ho).2.1 b)⟩, fun id o b ho hb => absurd hb ((hu id o ho).2.1 b),
    fun id o b ho hb => .inr (.inr ((hu id o ho).2.2 b hb))⟩
/-- The address of a row, by an open number. -/
def opIndexE (P : Program) (get : Operand → RV) (hp : Hp) (nx : Nat) (t : TypeId) (x i : Operand) : Option (Bool × Out) :=
  match get x, intOfRV (get i), P.underlying t with
  | .sv (.one (.ext id)), some j, some (.slice e) => (match (hlook hp id).bind HO.ls, sizeP P e with
    | some p, some s => bif Nat.beq s p.1.length then some (decide (0 ≤ j ∧ j < p.2.length), ⟨.sv (.one (.eptr nx 0)), [(nx, .elem id j.toNat p.1.length)], nx + 1, []⟩) else none
    | _, _ => none)
  | _, _, _ => none
theorem opIndexE_ok {P : Program} {o : Oper} {get : Operand → RV} {hp : Hp} {nx : Nat} {out : Out} {t : TypeId} {x i : Operand} {b : Bool} (hwf : WfOp get o hp nx) (ho : o.op = .indexAddr t x i) (h : opIndexE P get hp nx t x i = some (b, out)) (hb : b = true) : OpOk P o get hp nx out := by
  unfold opIndexE at h
  split at h
  · rename_i id j el hg hj hu
    split at h
    · rename_i p s hl hs
      cases hbq : Nat.beq s p.1.length with
      | false => rw [hbq] at h; cases h
      | true =>
        rw [hbq] at h
        simp only [cond_true, Option.some.injEq, Prod.mk.injEq] at h
        obtain ⟨rfl, rfl⟩ := h
        obtain rfl := Nat.eq_of_beq_eq_true hbq
        simp only [decide_eq_true_eq] at hb
        obtain ⟨hj0, hjn⟩ := hb
        intro e a w hx hsat K Q hK
        have hx1 := hx x (by rw [ho]; simp [Op.operands])
        have hx2 := hx i (by rw [ho]; simp [Op.operands])
        obtain ⟨k, hk⟩ := intOfRV_spec hj e
        rw [hg] at hx1
        rw [hk] at hx2
        obtain ⟨ob, hob, hls⟩ := Option.bind_eq_some_iff.1 hl
        obtain ⟨d, a', cap, hv, h1, h2, h0, hc⟩ := HO.rowsAt (hsat.holds _ _ hob) hls
        obtain ⟨bk, off, ha, _, _⟩ := hc j.toNat (by omega)
        subst ha
        have hid := (hwf.hp id _ hob).1
        have hx1' : a.eval x = .slice (some ⟨bk, off, none⟩) p.2.length cap := by rw [hx1]; exact hv
        have hσ : e.σ id = (some ⟨bk, off, none⟩, p.2.length, cap) := by
          simp only [Env.slv, Value.slice.injEq] at hv
          obtain ⟨g1, g2, g3⟩ := hv
          ext1
          · exact g1
          · ext1
            · exact g2
            · exact g3
        refine wp_value (w' := w) (v := .pointer (some ⟨bk, off + j.toNat * p.1.length, none⟩)) ?_ ?_
        · simp only [execOp, ho, hx1', hx2, Instr.indexAt, asIntOf, Sem.run_bind, run_underlying hu, Result.andThen_ok, Sem.run_pure]
          simp only [hj0, hjn, and_self, if_true, Sem.run_bind, sizeP_run hs, Result.andThen_ok, Sem.run_pure, addr_add]
        · have := hK (e.setS nx (some ⟨bk, off + j.toNat * p.1.length, none⟩, 0, 0) fun _ => False) w (PostOp.view (fun id' h => Env.setS_same (by omega)) fun id' o' h => ?_)
          · simpa [RV.den, SV.den, CV.den, Env.blk, Env.off, Env.setS_σ] using this
          · obtain ⟨rfl, rfl⟩ := hlook_one h
            have hne : id ≠ id' := by omega
            refine ⟨⟨⟨⟨bk, off, none⟩, ?_, rfl, ?_⟩, ?_⟩, fun _ h => h, fun _ h => False.elim h⟩
            · rw [(Env.setS_same hne).2.1, hσ]
            · rw [Env.setS_σ]
            · rw [(Env.setS_same hne).2.1, hσ]; simp only; omega
    · cases h
  · cases h

theorem rowCV_ok {w : World} {φ0 : Nat → Prop} {d : Nat} {l : List (List Ct)} {i blk : Nat} (hφ : ∀ b, φ0 b → b < w.heap.size) : ∀ (sh : List Sh) (j nx o0 : Nat) (e : Env), (∀ (q : Nat) s, sh[q]? = some s → ∃ u, w.cell? ⟨blk, o0 + q, none⟩ = some u ∧ CtHolds w φ0 d s (rd l i (j + q)) u) → noFn sh = true →
    ∃ e', (∀ id, id < nx ∨ rowNx sh nx ≤ id → e.same e' id) ∧ nx ≤ rowNx sh nx ∧ (∀ (q : Nat) c, (rowCV l i sh j nx)[q]? = some c → w.cell? ⟨blk, o0 + q, none⟩ = some (c.den e')) ∧
      ∀ id o, hlook (rowHp l i sh j nx) id = some o → nx ≤ id ∧ id < rowNx sh nx ∧ o.holds e' w id ∧ (∀ b, ¬ o.owns e' id b) ∧ ∀ b, o.foot e' id b → φ0 b := by
  intro sh
  induction sh with
  | nil => intro j nx o0 e _ _; exact ⟨e, fun _ _ => .refl _ _, Nat.le_refl _, fun q c h => by simp [rowCV] at h, fun id o h => by simp [rowHp, hlook] at h⟩
  | cons s sh ih =>
    intro j nx o0 e hc hnf
    simp only [noFn, List.all_cons, Bool.and_eq_true] at hnf
    obtain ⟨hnf0, hnf⟩ := hnf
    have ih := fun j nx o0 e h => ih j nx o0 e h (by unfold noFn; exact hnf)
    have hc' : ∀ (q : Nat) s, sh[q]? = some s → ∃ u, w.cell? ⟨blk, o0 + 1 + q, none⟩ = some u ∧ CtHolds w φ0 d s (rd l i (j + 1 + q)) u := fun q s' hs => by
      have := hc (q + 1) s' (by simpa using hs)
      rw [show o0 + 1 + q = o0 + (q + 1) by omega, show j + 1 + q = j + (q + 1) by omega]
      exact this
    obtain ⟨u, hu, hh⟩ := hc 0 s rfl
    rw [Nat.add_zero] at hu hh
    have flat : ∀ c : CV, c.ids = [] → (∀ e', c.den e' = u) → rowCV l i (s :: sh) j nx = c :: rowCV l i sh (j + 1) nx → rowHp l i (s :: sh) j nx = rowHp l i sh (j + 1) nx → rowNx (s :: sh) nx = rowNx sh nx →
        ∃ e', (∀ id, id < nx ∨ rowNx (s :: sh) nx ≤ id → e.same e' id) ∧ nx ≤ rowNx (s :: sh) nx ∧ (∀ (q : Nat) c, (rowCV l i (s :: sh) j nx)[q]? = some c → w.cell? ⟨blk, o0 + q, none⟩ = some (c.den e')) ∧
      ∀ id o, hlook (rowHp l i (s :: sh) j nx) id = some o → nx ≤ id ∧ id < rowNx (s :: sh) nx ∧ o.holds e' w id ∧ (∀ b, ¬ o.owns e' id b) ∧ ∀ b, o.foot e' id b → φ0 b := by
      intro c _ hden g1 g2 g3
      obtain ⟨e', k1, k2, k3, k4⟩ := ih (j + 1) nx (o0 + 1) e hc'
      rw [g1, g2, g3]
      refine ⟨e', k1, k2, fun q c' hq => ?_, k4⟩
      cases q with
      | zero => simp only [List.getElem?_cons_zero, Option.some.injEq] at hq; subst hq; rw [hden, Nat.add_zero]; exact hu
      | succ q => rw [show o0 + (q + 1) = o0 + 1 + q by omega]; exact k3 q c' (by simpa using hq)
    cases s with
    | int k =>
      have : u = .int k (rd l i j).int := by cases d <;> exact hh
      exact flat (.val false (.int k (rd l i j).int)) rfl (fun _ => this.symm) rfl rfl rfl
    | bool =>
      have : u = .bool (rd l i j).bool := by cases d <;> exact hh
      exact flat (.val false (.bool (rd l i j).bool)) rfl (fun _ => this.symm) rfl rfl rfl
    | str =>
      have : u = .string (rd l i j).str := by cases d <;> exact hh
      exact flat (.val false (.string (rd l i j).str)) rfl (fun _ => this.symm) rfl rfl rfl
    | fn al => cases hnf0
    | sl el =>
      cases d with
      | zero => exact False.elim hh
      | succ d' =>
        have hh' : RowsAt w φ0 (CtHolds w φ0 d') el (rd l i j).rows u := hh
        obtain ⟨a, cap, hv, h1, h2, h0, h3⟩ := hh'
        obtain ⟨e', k1, k2, k3, k4⟩ := ih (j + 1) (nx + 1) (o0 + 1) (e.setS nx (a, (rd l i j).rows.length, cap) φ0) hc'
        have hsame : (e.setS nx (a, (rd l i j).rows.length, cap) φ0).same e' nx := k1 nx (.inl (Nat.lt_succ_self _))
        have hslv : e'.slv nx = u := by rw [hsame.slv, Env.setS_slv, hv]
        have hφ' : e'.φ nx = φ0 := by rw [hsame.2.2, Env.setS_φ]
        refine ⟨e', fun id hid => ?_, by simp only [rowNx]; omega, fun q c' hq => ?_, fun id o hl => ?_⟩
        · simp only [rowNx] at hid
          exact (Env.setS_same (by omega)).trans (k1 id (by omega))
        · cases q with
          | zero =>
            simp only [rowCV, List.getElem?_cons_zero, Option.some.injEq] at hq
            subst hq
            rw [Nat.add_zero, hu]
            simp only [CV.den, hslv]
          | succ q => rw [show o0 + (q + 1) = o0 + 1 + q by omega]; exact k3 q c' (by simpa [rowCV] using hq)
        · simp only [rowHp, hlook] at hl
          simp only [rowNx]
          cases hb : Nat.beq nx id with
          | true =>
            rw [hb] at hl
            simp only [cond_true, Option.some.injEq] at hl
            subst hl
            obtain rfl := Nat.eq_of_beq_eq_true hb
            refine ⟨Nat.le_refl _, by omega, ⟨⟨d', ?_⟩, fun b hb' => ?_⟩, fun _ h => h, fun b hb' => ?_⟩
            · rw [hφ', hslv]; exact ⟨a, cap, hv, h1, h2, h0, h3⟩
            · rw [hφ'] at hb'; exact hφ b hb'
            · have hb'' : e'.φ nx b := hb'
              rw [hφ'] at hb''; exact hb''
          | false =>
            rw [hb] at hl
            have := k4 id o hl
            exact ⟨by omega, this.2⟩
theorem rowCV_length (l : List (List Ct)) (i : Nat) : ∀ (sh : List Sh) (j nx : Nat), (rowCV l i sh j nx).length = sh.length := by
  intro sh
  induction sh with
  | nil => intro j nx; rfl
  | cons s sh ih => intro j nx; cases s <;> simp [rowCV, ih]
/-- Out of a row. -/
def opLoadE (P : Program) (get : Operand → RV) (hp : Hp) (nx : Nat) (t : TypeId) (x : Operand) : Option Out :=
  match get x with
  | .sv (.one (.eptr q off)) => (match hlook hp q with
    | some (.elem id i w) => (match (hlook hp id).bind HO.ls, isAggP P t with
      | some p, some true => (match sizeP P t with
        | some n => bif Nat.beq w p.1.length && Nat.ble (off + n) p.1.length && noFn ((p.1.drop off).take n) then some ⟨.sv (.agg (rowCV p.2 i ((p.1.drop off).take n) off nx)), rowHp p.2 i ((p.1.drop off).take n) off nx, rowNx ((p.1.drop off).take n) nx, []⟩ else none
        | none => none)
      | some p, some false => bif Nat.beq w p.1.length && noFn ((p.1.drop off).take 1) then (match rowCV p.2 i ((p.1.drop off).take 1) off nx with
        | [c] => some ⟨.sv (.one c), rowHp p.2 i ((p.1.drop off).take 1) off nx, rowNx ((p.1.drop off).take 1) nx, []⟩
        | _ => none) else none
      | _, _ => none)
    | _ => none)
  | _ => none
/-- What a pointer into a row leads to. -/
theorem elem_at {e : Env} {w : World} {hp : Hp} {q id i wd off : Nat} {p : List Sh × List (List Ct)} (hsat : Sat e (hlook hp) w) (hq : hlook hp q = some (.elem id i wd)) (hl : (hlook hp id).bind HO.ls = some p) (hw : wd = p.1.length) :
    ∃ ob d bk o1, hlook hp id = some ob ∧ ob.ls = some p ∧ i < p.2.length ∧ (e.σ q).1 = some ⟨bk, o1 + i * p.1.length, none⟩ ∧ (e.σ id).1 = some ⟨bk, o1, none⟩ ∧ ob.foot e id bk ∧ (∀ b, e.φ id b → b < w.heap.size) ∧ (∀ b, e.φ id b → ob.foot e id b ∧ ¬ ob.owns e id b) ∧
      ∀ (j : Nat) s, p.1[j]? = some s → ∃ u, w.cell? ⟨bk, o1 + i * p.1.length + j, none⟩ = some u ∧ CtHolds w (e.φ id) d s (rd p.2 i j) u := by
  obtain ⟨ob, hob, hls⟩ := Option.bind_eq_some_iff.1 hl
  obtain ⟨⟨a, ha, hsp, hqa⟩, hi⟩ := hsat.holds _ _ hq
  have hh := hsat.holds _ _ hob
  obtain ⟨d, a', cap, hv, h1, h2, h0, hc⟩ := HO.rowsAt hh hls
  simp only [Env.slv, Value.slice.injEq] at hv
  obtain ⟨g1, g2, g3⟩ := hv
  have hi' : i < p.2.length := by rw [← g2]; exact hi
  obtain ⟨bk, o1, ha', hf, hcell⟩ := hc i hi'
  rw [g1, ha'] at ha
  cases ha
  have hφ : (∀ b, e.φ id b → b < w.heap.size) ∧ (∀ b, e.φ id b → ob.foot e id b ∧ ¬ ob.owns e id b) := by
    cases ob with
    | cells _ _ => cases hls
    | grid sh l => exact ⟨hh.2, fun b hb => ⟨hb, fun h => h⟩⟩
    | row sh t l => exact ⟨fun b hb => (hh.2 b hb).1, fun b hb => ⟨.inr hb, (hh.2 b hb).2⟩⟩
    | elem _ _ _ => cases hls
    | gone => cases hls
    | tie _ _ _ => cases hls
    | part _ _ _ _ => cases hls
    | lent _ _ => cases hls
  exact ⟨ob, d, bk, o1, hob, hls, hi', by rw [hqa, hw], by rw [g1, ha'], hf, hφ.1, hφ.2, hcell⟩
theorem opLoadE_ok {P : Program} {o : Oper} {get : Operand → RV} {hp : Hp} {nx : Nat} {out : Out} {t : TypeId} {x : Operand} (ho : o.op = .load t x) (h : opLoadE P get hp nx t x = some out) : OpOk P o get hp nx out := by
  unfold opLoadE at h
  split at h
  · rename_i q off hg
    split at h
    · rename_i id i wd hq
      have main : ∀ (p : List Sh × List (List Ct)) (n : Nat), (hlook hp id).bind HO.ls = some p → wd = p.1.length → noFn ((p.1.drop off).take n) = true → ∀ (e : Env) (a : Act) (w : World), (∀ x ∈ o.op.operands, a.eval x = (get x).den e) → Sat e (hlook hp) w →
          ∃ bk o2 e', a.eval x = .pointer (some ⟨bk, o2, none⟩) ∧ (∀ (j : Nat) c, (rowCV p.2 i ((p.1.drop off).take n) off nx)[j]? = some c → w.cell? ⟨bk, o2 + j, none⟩ = some (c.den e')) ∧
            ∀ v, PostOp e e' (hlook hp) nx ⟨v, rowHp p.2 i ((p.1.drop off).take n) off nx, rowNx ((p.1.drop off).take n) nx, []⟩ w w := by
        intro p n hl hw hnf e a w hx hsat
        obtain ⟨ob, d, bk, o1, hob, hls, hi, hσ, hσ', hf, hφ1, hφ2, hcell⟩ := elem_at (e := e) (w := w) (off := off) hsat hq hl hw
        have hx1 := hx x (by rw [ho]; simp [Op.operands])
        rw [hg] at hx1
        obtain ⟨e', k1, k2, k3, k4⟩ := rowCV_ok (l := p.2) (i := i) (blk := bk) (d := d) hφ1 ((p.1.drop off).take n) off nx (o1 + i * p.1.length + off) e (fun j s hs => by
          rw [List.getElem?_take] at hs
          split at hs
          · rw [List.getElem?_drop] at hs
            have := hcell (off + j) s hs
            rw [show o1 + i * p.1.length + off + j = o1 + i * p.1.length + (off + j) by omega]
            exact this
          · cases hs) hnf
        refine ⟨bk, o1 + i * p.1.length + off, e', ?_, k3, fun v => PostOp.view k1 fun id' o' h' => ?_⟩
        · rw [hx1]; simp [RV.den, SV.den, CV.den, Env.blk, Env.off, hσ]
        · obtain ⟨_, _, m1, m2, m3⟩ := k4 id' o' h'
          exact ⟨m1, m2, fun b hb => ⟨id, ob, hob, (hφ2 b (m3 b hb)).1, (hφ2 b (m3 b hb)).2⟩⟩
      split at h
      · rename_i p hl ha
        split at h
        · rename_i n hn
          cases hb : (Nat.beq wd p.1.length && Nat.ble (off + n) p.1.length && noFn ((p.1.drop off).take n)) with
          | false => rw [hb] at h; cases h
          | true =>
            rw [hb] at h
            cases h
            simp only [Bool.and_eq_true] at hb
            have hw := Nat.eq_of_beq_eq_true hb.1.1
            have hle := Nat.le_of_ble_eq_true hb.1.2
            intro e a w hx hsat K Q hK
            obtain ⟨bk, o2, e', m1, m2, m3⟩ := main p n hl hw hb.2 e a w hx hsat
            have hlen : (rowCV p.2 i ((p.1.drop off).take n) off nx).length = n := by rw [rowCV_length]; simp; omega
            refine wp_value (w' := w) (v := .agg ((rowCV p.2 i ((p.1.drop off).take n) off nx).map (CV.den e')).toArray) ?_ (hK e' w (m3 _))
            have := run_loadCells_list (P := P) w ⟨bk, o2, none⟩ ((rowCV p.2 i ((p.1.drop off).take n) off nx).map (CV.den e')) (fun j v hj => by
              rw [addr_add]
              simp only [List.getElem?_map, Option.map_eq_some_iff] at hj
              obtain ⟨c, hc', rfl⟩ := hj
              exact m2 j c hc')
            rw [List.length_map, hlen] at this
            simp only [execOp, ho, Instr.loadAt, m1, Instr.sureAddr, Sem.run_bind, Sem.run_pure, Result.andThen_ok, loadVar, isAgg_run ha, if_true, sizeP_run hn, this]
        · cases h
      · rename_i p hl ha
        cases hb : (Nat.beq wd p.1.length && noFn ((p.1.drop off).take 1)) with
        | false => rw [hb] at h; cases h
        | true =>
          rw [hb] at h
          simp only [cond_true] at h
          simp only [Bool.and_eq_true] at hb
          split at h
          · rename_i c hc
            cases h
            intro e a w hx hsat K Q hK
            obtain ⟨bk, o2, e', m1, m2, m3⟩ := main p 1 hl (Nat.eq_of_beq_eq_true hb.1) hb.2 e a w hx hsat
            refine wp_value (w' := w) (v := c.den e') ?_ (hK e' w (m3 _))
            have hc0 := m2 0 c (by rw [hc]; rfl)
            rw [Nat.add_zero] at hc0
            simp only [execOp, ho, Instr.loadAt, m1, Instr.sureAddr, Sem.run_bind, Sem.run_pure, Result.andThen_ok, loadVar, isAgg_run ha, Bool.false_eq_true, if_false, run_load, hc0]
          · cases h
      · cases h
    · cases h
  · cases h
end Go.Proofs.Ytonlllijdbjkaaa

/- A symbolic way through the code of a call: slices of an open length: rows laid behind. No condition. -/
set_option linter.unusedVariables false
namespace Go.Proofs.Ytonlllijdbjkaaa
open Go.RowKit

def shEq : Nat → Sh → Sh → Bool
  | _, .int k, .int k' => decide (k = k')
  | _, .bool, .bool => true
  | _, .str, .str => true
  | d + 1, .sl a, .sl b => Nat.beq a.length b.length && (a.zip b).all fun p => shEq d p.1 p.2
  | d + 1, .fn a, .fn b => Nat.beq a.length b.length && (a.zip b).all fun p => Nat.beq p.1.1 p.2.1 && Nat.beq p.1.2.length p.2.2.length && (p.1.2.zip p.2.2).all fun q => Nat.beq q.1.1 q.2.1 && Nat.beq q.1.2.length q.2.2.length && (q.1.2.zip q.2.2).all fun r => shEq d r.1 r.2
  | _, _, _ => false
def shEqL (a b : List Sh) : Bool := Nat.beq a.length b.length && (a.zip b).all fun p => shEq 8 p.1 p.2
theorem zip_eqA {A : Type} {f : A → A → Bool} (hd : ∀ x y : A, f x y = true → x = y) : ∀ {a b : List A}, Nat.beq a.length b.length = true → ((a.zip b).all fun p => f p.1 p.2) = true → a = b := by
  intro a
  induction a with
  | nil =>
    intro b h _
    cases b with
    | nil => rfl
    | cons y b => cases h
  | cons x a ih =>
    intro b h h2
    cases b with
    | nil => cases h
    | cons y b =>
      simp only [List.zip_cons_cons, List.all_cons, Bool.and_eq_true] at h2
      rw [hd _ _ h2.1, ih h h2.2]
theorem zip_eq {d : Nat} (hd : ∀ x y : Sh, shEq d x y = true → x = y) : ∀ {a b : List Sh}, Nat.beq a.length b.length = true → ((a.zip b).all fun p => shEq d p.1 p.2) = true → a = b := by
  intro a
  induction a with
  | nil =>
    intro b h _
    cases b with
    | nil => rfl
    | cons y b => cases h
  | cons x a ih =>
    intro b h h2
    cases b with
    | nil => cases h
    | cons y b =>
      simp only [List.zip_cons_cons, List.all_cons, Bool.and_eq_true] at h2
      rw [hd _ _ h2.1, ih h h2.2]
theorem shEq_spec : ∀ {d : Nat} {a b : Sh}, shEq d a b = true → a = b := by
  intro d
  induction d with
  | zero => intro a b h; cases a <;> cases b <;> simp_all [shEq]
  | succ d ih =>
    intro a b h
    cases a <;> cases b <;> first | (simp_all [shEq]; done) | skip
    · rename_i x y
      simp only [shEq, Bool.and_eq_true] at h
      rw [zip_eq (fun _ _ h => ih h) h.1 h.2]
    · rename_i x y
      simp only [shEq, Bool.and_eq_true] at h
      rw [zip_eqA (f := fun (a b : FuncId × List (TypeId × List Sh)) => Nat.beq a.1 b.1 && Nat.beq a.2.length b.2.length && (a.2.zip b.2).all fun q => Nat.beq q.1.1 q.2.1 && Nat.beq q.1.2.length q.2.2.length && (q.1.2.zip q.2.2).all fun r => shEq d r.1 r.2) ?_ h.1 h.2]
      intro a b h
      simp only [Bool.and_eq_true] at h
      refine Prod.ext (Nat.eq_of_beq_eq_true h.1.1) (zip_eqA (f := fun (a b : TypeId × List Sh) => Nat.beq a.1 b.1 && Nat.beq a.2.length b.2.length && (a.2.zip b.2).all fun r => shEq d r.1 r.2) (fun q r h => ?_) h.1.2 h.2)
      simp only [Bool.and_eq_true] at h
      exact Prod.ext (Nat.eq_of_beq_eq_true h.1.1) (zip_eq (fun _ _ h => ih h) h.1.2 h.2)
theorem shEqL_spec {a b : List Sh} (h : shEqL a b = true) : a = b := by
  simp only [shEqL, Bool.and_eq_true] at h
  exact zip_eq (fun _ _ h => shEq_spec h) h.1 h.2
/-- What a cell holds. -/
def ctOf (hp : Hp) : CV → Sh → Option Ct
  | .val _ (.int k n), .int k' => if k = k' then some (.i n) else none
  | .val _ (.bool b), .bool => some (.b b)
  | .val _ (.string s), .str => some (.s s)
  | .val _ (.slice none 0 0), .sl _ => some (.l [])
  | .ext id, .sl el => (match (hlook hp id).bind HO.ls with
    | some p => bif shEqL p.1 el then some (.l p.2) else none
    | none => none)
  | _, _ => none
def ctsOf (hp : Hp) : List CV → List Sh → Option (List Ct)
  | [], [] => some []
  | c :: cs, s :: sh => (match ctOf hp c s, ctsOf hp cs sh with
    | some a, some l => some (a :: l)
    | _, _ => none)
  | _, _ => none
def rowsOf (hp : Hp) (sh : List Sh) : Nat → List CV → Option (List (List Ct))
  | 0, [] => some []
  | 0, _ :: _ => none
  | m + 1, cs => match ctsOf hp (cs.take sh.length) sh, rowsOf hp sh m (cs.drop sh.length) with
    | some r, some l => some (r :: l)
    | _, _ => none
/-- What cells that are slices hang on. -/
def Nest (hp : Hp) (e : Env) (cs : List CV) (b : Nat) : Prop := ∃ id ∈ cs.flatMap CV.ids, ∃ o, hlook hp id = some o ∧ o.foot e id b
theorem Nest.mono {hp : Hp} {e : Env} {cs cs' : List CV} (h : ∀ c ∈ cs, c ∈ cs') {b : Nat} (hn : Nest hp e cs b) : Nest hp e cs' b := by
  obtain ⟨id, hid, o, h1, h2⟩ := hn
  obtain ⟨c, hc, hi⟩ := List.mem_flatMap.1 hid
  exact ⟨id, List.mem_flatMap.2 ⟨c, h c hc, hi⟩, o, h1, h2⟩
theorem ctOf_ok {hp : Hp} {c : CV} {s : Sh} {ct : Ct} (h : ctOf hp c s = some ct) {e : Env} {w : World} (hsat : Sat e (hlook hp) w) : ∃ d, CtHolds w (Nest hp e [c]) d s ct (c.den e) := by
  unfold ctOf at h
  split at h
  · split at h
    · rename_i hk; cases h; subst hk; exact ⟨0, rfl⟩
    · cases h
  · cases h; exact ⟨0, rfl⟩
  · cases h; exact ⟨0, rfl⟩
  · cases h; exact ⟨1, none, 0, rfl, Nat.le_refl _, by omega, fun _ => rfl, fun i hi => absurd hi (by simp [Ct.rows])⟩
  · rename_i id el
    split at h
    · rename_i p hp'
      cases hb : shEqL p.1 el with
      | false => rw [hb] at h; cases h
      | true =>
        rw [hb] at h
        cases h
        obtain rfl := shEqL_spec hb
        obtain ⟨ob, hob, hls⟩ := Option.bind_eq_some_iff.1 hp'
        have hh := hsat.holds _ _ hob
        obtain ⟨d, hr⟩ := HO.rowsAt hh hls
        refine ⟨d + 1, RowsAt.mono (fun b hb => ⟨⟨id, by simp [CV.ids], ob, hob, hb⟩, rfl⟩) (fun _ _ _ => CtHolds.mono fun b hb => ⟨⟨id, by simp [CV.ids], ob, hob, ?_⟩, rfl⟩) hr⟩
        cases ob with
        | cells _ _ => cases hls
        | grid _ _ => exact hb
        | row _ _ _ => exact .inr hb
        | elem _ _ _ => cases hls
        | gone => cases hls
        | tie _ _ _ => cases hls
        | part _ _ _ _ => cases hls
        | lent _ _ => cases hls
    · cases h
  · cases h
theorem ctsOf_ok {hp : Hp} {e : Env} {w : World} (hsat : Sat e (hlook hp) w) : ∀ {cs : List CV} {sh : List Sh} {r : List Ct}, ctsOf hp cs sh = some r → cs.length = sh.length ∧ r.length = sh.length ∧ ∃ d, ∀ (j : Nat) s, sh[j]? = some s → ∃ c, cs[j]? = some c ∧ CtHolds w (Nest hp e cs) d s (r.getD j (.i 0)) (c.den e) := by
  intro cs
  induction cs with
  | nil =>
    intro sh r h
    cases sh with
    | nil => cases h; exact ⟨rfl, rfl, 0, fun j s h => by simp at h⟩
    | cons s sh => cases h
  | cons c cs ih =>
    intro sh r h
    cases sh with
    | nil => cases h
    | cons s sh =>
      simp only [ctsOf] at h
      split at h
      · rename_i a l h1 h2
        cases h
        obtain ⟨g1, g2, d, g3⟩ := ih h2
        obtain ⟨d', g4⟩ := ctOf_ok h1 hsat
        refine ⟨by simp [g1], by simp [g2], max d d', fun j s' hs => ?_⟩
        cases j with
        | zero =>
          simp only [List.getElem?_cons_zero, Option.some.injEq] at hs
          subst hs
          exact ⟨c, rfl, (g4.mono fun b hb => ⟨hb.mono (by simp), rfl⟩).deeper (Nat.le_max_right _ _)⟩
        | succ j =>
          obtain ⟨c', hc', hh⟩ := g3 j s' (by simpa using hs)
          exact ⟨c', by simpa using hc', by simpa using (hh.mono fun b hb => ⟨hb.mono fun x hx => List.mem_cons_of_mem _ hx, rfl⟩).deeper (Nat.le_max_left _ _)⟩
      · cases h
theorem rd_cons_zero (r : List Ct) (l : List (List Ct)) (j : Nat) : rd (r :: l) 0 j = r.getD j (.i 0) := rfl
theorem rd_cons_succ (r : List Ct) (l : List (List Ct)) (i j : Nat) : rd (r :: l) (i + 1) j = rd l i j := rfl
theorem rowsOf_ok {hp : Hp} {e : Env} {w : World} (hsat : Sat e (hlook hp) w) {sh : List Sh} : ∀ {m : Nat} {cs : List CV} {l : List (List Ct)}, rowsOf hp sh m cs = some l → cs.length = m * sh.length ∧ l.length = m ∧
    ∃ d, ∀ i, i < m → ∀ (j : Nat) s, sh[j]? = some s → ∃ c, cs[i * sh.length + j]? = some c ∧ CtHolds w (Nest hp e cs) d s (rd l i j) (c.den e) := by
  intro m
  induction m with
  | zero =>
    intro cs l h
    cases cs with
    | nil => cases h; exact ⟨by simp, rfl, 0, fun i hi => by omega⟩
    | cons c cs => cases h
  | succ m ih =>
    intro cs l h
    simp only [rowsOf] at h
    split at h
    · rename_i r l' h1 h2
      cases h
      obtain ⟨g1, g2, d, g3⟩ := ctsOf_ok hsat h1
      obtain ⟨k1, k2, d', k3⟩ := ih h2
      have hlen : cs.length = (m + 1) * sh.length := by
        simp only [List.length_drop, List.length_take] at k1 g1
        rw [Nat.succ_mul]
        omega
      refine ⟨hlen, by simp [k2], max d d', fun i hi j s hs => ?_⟩
      have hj : j < sh.length := by
        rcases Nat.lt_or_ge j sh.length with h | h
        · exact h
        · rw [List.getElem?_eq_none h] at hs; cases hs
      cases i with
      | zero =>
        obtain ⟨c, hc, hh⟩ := g3 j s hs
        rw [List.getElem?_take, if_pos hj] at hc
        exact ⟨c, by simpa using hc, (hh.mono fun b hb => ⟨hb.mono fun x hx => List.mem_of_mem_take hx, rfl⟩).deeper (Nat.le_max_left _ _)⟩
      | succ i =>
        obtain ⟨c, hc, hh⟩ := k3 i (by omega) j s hs
        rw [List.getElem?_drop] at hc
        refine ⟨c, ?_, (hh.mono fun b hb => ⟨hb.mono fun x hx => List.mem_of_mem_drop hx, rfl⟩).deeper (Nat.le_max_right _ _)⟩
        rw [← hc, Nat.succ_mul]
        congr 1
        omega
    · cases h
/-- A cell of a row that names something names a slice of an open length. -/
theorem ctOf_ext {hp : Hp} {c : CV} {s : Sh} {ct : Ct} (h : ctOf hp c s = some ct) : ∀ id ∈ c.ids, ∃ p, (hlook hp id).bind HO.ls = some p := by
  unfold ctOf at h
  split at h
  all_goals first | (intro id hid; simp [CV.ids] at hid; done) | skip
  · intro id hid
    simp only [CV.ids, List.mem_singleton] at hid
    subst hid
    split at h
    · rename_i p hp'; exact ⟨p, hp'⟩
    · cases h
  · cases h
theorem ctsOf_ext {hp : Hp} : ∀ {cs : List CV} {sh : List Sh} {r : List Ct}, ctsOf hp cs sh = some r → ∀ c ∈ cs, ∀ id ∈ c.ids, ∃ p, (hlook hp id).bind HO.ls = some p := by
  intro cs
  induction cs with
  | nil => intro sh r _ c hc; cases hc
  | cons c cs ih =>
    intro sh r h
    cases sh with
    | nil => cases h
    | cons s sh =>
      simp only [ctsOf] at h
      split at h
      · rename_i a l h1 h2
        intro c' hc'
        rcases List.mem_cons.1 hc' with rfl | hc'
        · exact ctOf_ext h1
        · exact ih h2 c' hc'
      · cases h
theorem rowsOf_ext {hp : Hp} {sh : List Sh} : ∀ {m : Nat} {cs : List CV} {l : List (List Ct)}, rowsOf hp sh m cs = some l → ∀ c ∈ cs, ∀ id ∈ c.ids, ∃ p, (hlook hp id).bind HO.ls = some p := by
  intro m
  induction m with
  | zero =>
    intro cs l h
    cases cs with
    | nil => intro c hc; cases hc
    | cons c cs => cases h
  | succ m ih =>
    intro cs l h
    simp only [rowsOf] at h
    split at h
    · rename_i r l' h1 h2
      intro c hc
      rw [← List.take_append_drop sh.length cs] at hc
      rcases List.mem_append.1 hc with hc | hc
      · exact ctsOf_ext h1 c hc
      · exact ih h2 c hc
    · cases h
theorem CtHolds.one {w : World} {φ : Nat → Prop} {d : Nat} {s : Sh} {c : Ct} {v : Value} (h : CtHolds w φ d s c v) : v.oneCell' = true := by
  cases s with
  | int k => have : v = .int k c.int := by cases d <;> exact h
             rw [this]; rfl
  | bool => have : v = .bool c.bool := by cases d <;> exact h
            rw [this]; rfl
  | str => have : v = .string c.str := by cases d <;> exact h
           rw [this]; rfl
  | sl el =>
    cases d with
    | zero => exact False.elim h
    | succ d =>
      have h' : RowsAt w φ (CtHolds w φ d) el c.rows v := h
      obtain ⟨a, cap, hv, _⟩ := h'
      rw [hv]; rfl
  | fn al =>
    cases d with
    | zero => exact False.elim h
    | succ d =>
      have h' : FnAt w φ (CtHolds w φ d) al c.rows v := h
      rcases h' with ⟨_, hv⟩ | ⟨f, caps, _, bs, _, hv, _⟩ <;> (rw [hv]; rfl)
theorem rd_append {l1 l2 : List (List Ct)} {i j : Nat} : rd (l1 ++ l2) i j = if i < l1.length then rd l1 i j else rd l2 (i - l1.length) j := by
  unfold rd
  simp only [List.getD_eq_getElem?_getD (l := l1 ++ l2), List.getElem?_append]
  split <;> simp [List.getD_eq_getElem?_getD]
def gones (C : List Nat) : Hp := C.map fun id => (id, .gone)
theorem hlook_gones {C : List Nat} {id : Nat} : hlook (gones C) id = if id ∈ C then some .gone else none := by
  induction C with
  | nil => simp [gones, hlook]
  | cons i C ih =>
    simp only [gones, List.map_cons, hlook]
    cases hb : Nat.beq i id with
    | true => simp [Nat.eq_of_beq_eq_true hb]
    | false =>
      have : id ≠ i := fun h => by rw [h, Nat.beq_refl] at hb; cases hb
      simp only [cond_false]
      have ih' := ih
      unfold gones at ih'
      rw [ih']
      simp [this]
theorem run_append_any {P : Program} {w : World} {t ty e : TypeId} {i : TypeInfo} {z : Value} {size : Nat} (ht : P.underlying t = some (.slice e)) (hi : P.info? e = some i) (hz : i.zero = some z) (hsize : i.size = size) (hzs : z.cells.size = size) (hsz : 0 < size)
    {v : Value} {n : Nat} {xs : List Value} (hown : w.ownsRow 0 e size v n xs) {a : Option Addr} {m c : Nat} {news : List Value} (hl : news.length = m * size) (ha : a = none → m = 0 ∧ c = 0)
    (hnews : ∀ ad, a = some ad → ∀ j u, news[j]? = some u → w.cell? (ad.add j) = some u) (h1 : ∀ u ∈ news, u.oneCell' = true) (h63 : n + m ≤ 9223372036854775807) (hbytes : (n + m) * i.bytes ≤ 140737488355328) :
    ∃ v' w', (Builtin.append_ #[t, t] ty #[v, .slice a m c]).run P w = .ok v' w' ∧ w'.ownsRow 0 e size v' (n + m) (xs ++ news) ∧ w.grownBy w' v.ownBlock ∧ (v'.ownBlock = v.ownBlock ∨ v'.ownBlock = some w.heap.size) := by
  cases a with
  | none =>
    obtain ⟨rfl, rfl⟩ := ha rfl
    have hn : news = [] := List.eq_nil_of_length_eq_zero (by simpa using hl)
    subst hn
    have := run_append_owned_none (P := P) w 0 t ty e i size ht hi v n xs hown
    exact ⟨v, w, this, by simpa using hown, ⟨rfl, rfl, rfl, Nat.le_refl _, fun _ _ _ => rfl⟩, .inl rfl⟩
  | some ad =>
    obtain ⟨v', w', g1, g2, g3, _, g5⟩ := run_append_own_at (P := P) w 0 t ty e i z size i.bytes ht hi hz hsize rfl hzs hsz v n xs hown ad m c news hl (hnews ad rfl) h1 (by simp only [maxLen]; omega) hbytes (Nat.zero_le _)
    exact ⟨v', w', g1, g2, g3, g5⟩
/-- A row that may be laid behind: whose it is, what it holds. -/
structure Tgt (hp : Hp) (e : Env) (w : World) (sh : List Sh) (t : TypeId) (C : List Nat) (v : Value) (l : List (List Ct)) (φ1 : Nat → Prop) : Prop where
  own : ∃ d xs, w.ownsRow 0 t sh.length v l.length xs ∧ ∀ i, i < l.length → ∀ (j : Nat) s, sh[j]? = some s → ∃ u, xs[i * sh.length + j]? = some u ∧ CtHolds w φ1 d s (rd l i j) u
  blk : ∀ b, v.ownBlock = some b → ∃ id0 ∈ C, ∃ o0, hlook hp id0 = some o0 ∧ o0.owns e id0 b
  sl : ∃ a m c, v = .slice a m c
/-- What it hangs on: there, not the row's own block; used up, or read alone. -/
def Fine (hp : Hp) (e : Env) (w : World) (C : List Nat) (v : Value) (φ : Nat → Prop) : Prop :=
  ∀ b, φ b → b < w.heap.size ∧ v.ownBlock ≠ some b ∧ ((∃ id0 ∈ C, ∃ o0, hlook hp id0 = some o0 ∧ o0.owns e id0 b) ∨ ∃ id0 o0, hlook hp id0 = some o0 ∧ o0.foot e id0 b ∧ ¬ o0.owns e id0 b)
structure Srce (w : World) (sh : List Sh) (v : Value) (l : List (List Ct)) (φ2 : Nat → Prop) : Prop where
  own : ∃ d a c, ∃ news : List Value, v = .slice a l.length c ∧ (a = none → l.length = 0 ∧ c = 0) ∧ news.length = l.length * sh.length ∧ (∀ ad, a = some ad → ∀ (j : Nat) u, news[j]? = some u → w.cell? (ad.add j) = some u) ∧
    ∀ i, i < l.length → ∀ (j : Nat) s, sh[j]? = some s → ∃ u, news[i * sh.length + j]? = some u ∧ CtHolds w φ2 d s (rd l i j) u
theorem append_core {P : Program} {hp : Hp} {e : Env} {w : World} {sh : List Sh} {t ty el : TypeId} {i : TypeInfo} {z : Value} {C : List Nat} {nx : Nat} {vx vy : Value} {l1 l2 : List (List Ct)} {φ1 φ2 : Nat → Prop} (hsat : Sat e (hlook hp) w)
    (ht : P.underlying t = some (.slice el)) (hi : P.info? el = some i) (hz : i.zero = some z) (hsize : i.size = sh.length) (hzs : z.cells.size = sh.length) (hsz : 0 < sh.length) (hC : ∀ id ∈ C, id < nx)
    (hx : Tgt hp e w sh el C vx l1 φ1) (hf1 : Fine hp e w C vx φ1) (hy : Srce w sh vy l2 φ2) (hf2 : Fine hp e w C vx φ2)
    (h63 : l1.length + l2.length ≤ 9223372036854775807) (hbytes : (l1.length + l2.length) * i.bytes ≤ 140737488355328) :
    ∃ v' w' e', (Builtin.append_ #[t, t] ty #[vx, vy]).run P w = .ok v' w' ∧ v' = e'.slv nx ∧ PostOp e e' (hlook hp) nx ⟨.sv (.one (.ext nx)), (nx, .row sh el (l1 ++ l2)) :: gones C, nx + 1, C⟩ w w' := by
  obtain ⟨⟨d1, xs, hown, hc1⟩, hblk, _⟩ := hx
  obtain ⟨d2, a, c, news, rfl, ha, hnl, hcell, hc2⟩ := hy.own
  have hcov : ∀ (l : List (List Ct)) (ys : List Value) (φ : Nat → Prop) (d : Nat), ys.length = l.length * sh.length → (∀ i, i < l.length → ∀ (j : Nat) s, sh[j]? = some s → ∃ u, ys[i * sh.length + j]? = some u ∧ CtHolds w φ d s (rd l i j) u) → ∀ u ∈ ys, u.oneCell' = true := by
    intro l ys φ d hl hc u hu
    obtain ⟨q, hq⟩ := List.mem_iff_getElem?.1 hu
    have hlt : q < l.length * sh.length := by
      obtain ⟨h, _⟩ := List.getElem?_eq_some_iff.1 hq
      omega
    have hj : q % sh.length < sh.length := Nat.mod_lt _ hsz
    have hi' : q / sh.length < l.length := Nat.div_lt_of_lt_mul (by rw [Nat.mul_comm]; exact hlt)
    obtain ⟨u', hu', hh⟩ := hc (q / sh.length) hi' (q % sh.length) sh[q % sh.length] (List.getElem?_eq_getElem hj)
    rw [show q / sh.length * sh.length + q % sh.length = q from Nat.div_add_mod' q sh.length, hq] at hu'
    cases hu'
    exact hh.one
  obtain ⟨v', w', g1, g2, g3, g4⟩ := run_append_any (P := P) (ty := ty) ht hi hz hsize hzs hsz hown (a := a) (m := l2.length) (c := c) hnl ha hcell (hcov l2 news φ2 d2 hnl hc2) h63 hbytes
  have hsl : ∃ a' m' c', v' = .slice a' m' c' := by
    rcases g2.2 with ⟨h, _⟩ | ⟨g, cap, cur, h, _⟩
    · exact ⟨_, _, _, h⟩
    · exact ⟨_, _, _, h⟩
  obtain ⟨a', m', c', rfl⟩ := hsl
  have keep : ∀ (φ : Nat → Prop), Fine hp e w C vx φ → ∀ b, φ b → w'.heap[b]? = w.heap[b]? := fun φ hf b hb => g3.block b (hf b hb).1 (fun h => (hf b hb).2.1 h.symm)
  have hne : ∀ (φ : Nat → Prop), Fine hp e w C vx φ → ∀ b, φ b → (Value.slice a' m' c').ownBlock ≠ some b := by
    intro φ hf b hb h
    rcases g4 with g4 | g4
    · rw [g4] at h; exact (hf b hb).2.1 h
    · rw [g4] at h
      cases h
      have := (hf _ hb).1
      omega
  refine ⟨_, w', e.setS nx (a', m', c') (fun b => φ1 b ∨ φ2 b), g1, by rw [Env.setS_slv], ⟨fun id hid => Env.setS_same (by simp only at hid; omega), g3.os, g3.tape, g3.output, g3.size, fun k hk hnn => ?_, ⟨fun id o ho => ?_, fun id o ho id' o' ho' hne' b hb hf => ?_⟩, fun id o b ho hb => ?_, fun id o b ho hb => ?_⟩⟩
  · refine g3.block k hk fun h => ?_
    obtain ⟨id0, h1, o0, h2, h3⟩ := hblk k h.symm
    exact hnn id0 h1 o0 h2 h3
  · simp only [hlook] at ho
    cases hb : Nat.beq nx id with
    | true =>
      rw [hb] at ho
      cases ho
      obtain rfl := Nat.eq_of_beq_eq_true hb
      refine ⟨⟨max d1 d2, xs ++ news, ?_, fun q hq j s hs => ?_⟩, fun b hb' => ?_⟩
      · rw [Env.setS_slv, List.length_append]; exact g2
      · rw [Env.setS_φ, rd_append]
        have hj : j < sh.length := by
          rcases Nat.lt_or_ge j sh.length with h | h
          · exact h
          · rw [List.getElem?_eq_none h] at hs; cases hs
        by_cases hq1 : q < l1.length
        · obtain ⟨u, hu, hh⟩ := hc1 q hq1 j s hs
          refine ⟨u, ?_, ?_⟩
          · obtain ⟨hlt, _⟩ := List.getElem?_eq_some_iff.1 hu
            rw [List.getElem?_append_left hlt]; exact hu
          · rw [if_pos hq1]
            exact (hh.mono fun b hb => ⟨.inl hb, keep φ1 hf1 b hb⟩).deeper (Nat.le_max_left _ _)
        · have hq' : q - l1.length < l2.length := by rw [List.length_append] at hq; omega
          obtain ⟨u, hu, hh⟩ := hc2 (q - l1.length) hq' j s hs
          refine ⟨u, ?_, ?_⟩
          · have hxl := hown.1
            have : l1.length * sh.length ≤ q * sh.length := Nat.mul_le_mul_right _ (by omega)
            rw [List.getElem?_append_right (by omega), hxl, ← hu, Nat.sub_mul]
            congr 1
            omega
          · rw [if_neg hq1]
            exact (hh.mono fun b hb => ⟨.inr hb, keep φ2 hf2 b hb⟩).deeper (Nat.le_max_right _ _)
      · rw [Env.setS_φ] at hb'
        rw [Env.setS_slv]
        rcases hb' with hb' | hb'
        · exact ⟨Nat.lt_of_lt_of_le (hf1 b hb').1 g3.size, hne φ1 hf1 b hb'⟩
        · exact ⟨Nat.lt_of_lt_of_le (hf2 b hb').1 g3.size, hne φ2 hf2 b hb'⟩
    | false =>
      rw [hb] at ho
      simp only [cond_false, hlook_gones] at ho
      split at ho
      · cases ho; trivial
      · cases ho
  · simp only [hlook] at ho ho'
    cases hb1 : Nat.beq nx id with
    | true =>
      cases hb2 : Nat.beq nx id' with
      | true => exact hne' ((Nat.eq_of_beq_eq_true hb1).symm.trans (Nat.eq_of_beq_eq_true hb2))
      | false =>
        rw [hb2] at ho'
        simp only [cond_false, hlook_gones] at ho'
        split at ho'
        · cases ho'; exact hf
        · cases ho'
    | false =>
      rw [hb1] at ho
      simp only [cond_false, hlook_gones] at ho
      split at ho
      · cases ho; exact hb
      · cases ho
  · simp only [hlook] at ho
    cases hb1 : Nat.beq nx id with
    | true =>
      rw [hb1] at ho
      cases ho
      obtain rfl := Nat.eq_of_beq_eq_true hb1
      have hb' : (Env.slv (e.setS nx (a', m', c') fun b => φ1 b ∨ φ2 b) nx).ownBlock = some b := hb
      rw [Env.setS_slv] at hb'
      rcases g4 with g4 | g4
      · rw [g4] at hb'; exact .inr (hblk b hb')
      · rw [g4] at hb'; cases hb'; exact .inl (Nat.le_refl _)
    | false =>
      rw [hb1] at ho
      simp only [cond_false, hlook_gones] at ho
      split at ho
      · cases ho; exact False.elim hb
      · cases ho
  · simp only [hlook] at ho
    cases hb1 : Nat.beq nx id with
    | true =>
      rw [hb1] at ho
      cases ho
      obtain rfl := Nat.eq_of_beq_eq_true hb1
      rcases hb with hb | hb
      · rw [Env.setS_slv] at hb
        rcases g4 with g4 | g4
        · rw [g4] at hb; exact .inr (.inl (hblk b hb))
        · rw [g4] at hb; cases hb; exact .inl (Nat.le_refl _)
      · rw [Env.setS_φ] at hb
        rcases hb with hb | hb
        · exact .inr ((hf1 b hb).2.2)
        · exact .inr ((hf2 b hb).2.2)
    | false =>
      rw [hb1] at ho
      simp only [cond_false, hlook_gones] at ho
      split at ho
      · cases ho; exact False.elim hb
      · cases ho
end Go.Proofs.Ytonlllijdbjkaaa
