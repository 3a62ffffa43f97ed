/- A symbolic way through the code of a call: each operation by itself. No condition. -/
import Derived.Test.YthgneojhhocflaaEng1
import Derived.Laws.StructEq
import Derived.Laws.Tables
import Derived.Laws.CopyRow
import Derived.Laws.Small
set_option linter.unusedVariables false
namespace Go.Proofs.Ythgneojhhocflaa
open Go.RowKit

def isAggP (P : Program) (t : TypeId) : Option Bool :=
  match P.underlying t with
  | some (.struct _) => some true
  | some (.array _ _) => some true
  | some _ => some false
  | none => none
def sizeP (P : Program) (t : TypeId) : Option Nat := (P.info? t).map (·.size)
def ldCells (P : Program) (t : TypeId) (cs : List CV) (off : Nat) : Option SV :=
  match isAggP P t with
  | some true => (match sizeP P t with
    | some n => bif Nat.ble (off + n) cs.length then some (.agg ((cs.drop off).take n)) else none
    | none => none)
  | some false => (match cs[off]? with
    | some c => some (.one c)
    | none => none)
  | none => none
def stCells (cs : List CV) (off : Nat) (xs : List CV) : List CV := cs.take off ++ xs ++ cs.drop (off + xs.length)
def fillCV (place : Nat → Option (Nat × Nat)) (cs : List CV) : List (Nat × SV) → Option (List CV)
  | [] => some cs
  | (i, s) :: rest =>
    match place i with
    | none => none
    | some (off, size) => bif s.plain && Nat.beq s.cells.length size && Nat.ble (off + size) cs.length then fillCV place (stCells cs off s.cells) rest else none
def partsSV (get : Operand → RV) : List (Nat × Operand) → Option (List (Nat × SV))
  | [] => some []
  | (i, x) :: r => match get x, partsSV get r with
    | .sv s, some l => some ((i, s) :: l)
    | _, _ => none
def intOfRV : RV → Option Int
  | .sv (.one (.val _ (.int _ n))) => some n
  | _ => none
/-- The cells of a row from the column j on; what lies in a cell that is a slice gets a name. -/
def rowCV (l : List (List Ct)) (i : Nat) : List Sh → Nat → Nat → List CV
  | [], _, _ => []
  | .int k :: sh, j, nx => .val false (.int k (rd l i j).int) :: rowCV l i sh (j + 1) nx
  | .bool :: sh, j, nx => .val false (.bool (rd l i j).bool) :: rowCV l i sh (j + 1) nx
  | .str :: sh, j, nx => .val false (.string (rd l i j).str) :: rowCV l i sh (j + 1) nx
  | .sl _ :: sh, j, nx => .ext nx :: rowCV l i sh (j + 1) (nx + 1)
def rowHp (l : List (List Ct)) (i : Nat) : List Sh → Nat → Nat → Hp
  | [], _, _ => []
  | .sl e :: sh, j, nx => (nx, .grid e (rd l i j).rows) :: rowHp l i sh (j + 1) (nx + 1)
  | _ :: sh, j, nx => rowHp l i sh (j + 1) nx
def rowNx : List Sh → Nat → Nat
  | [], nx => nx
  | .sl _ :: sh, nx => rowNx sh (nx + 1)
  | _ :: sh, nx => rowNx sh nx
def capsOf (get : Operand → RV) : List Operand → Option (List (Nat × Nat))
  | [] => some []
  | x :: r => match get x, capsOf get r with
    | .sv (.one (.ptr id off)), some l => some ((id, off) :: l)
    | _, _ => none
def env0 : Env := ⟨fun _ => 0, fun _ => (none, 0, 0), fun _ _ => False⟩
def pureOp (P : Program) (o : Oper) (get : Operand → RV) (nx : Nat) : Option Out :=
  bif o.op.operands.toList.all (fun x => (get x).ids.isEmpty) then
    match symPure P (execOp (fun x => (get x).den env0) o) with
    | some (.value v) => some ⟨RV.ofVal (o.op.operands.toList.all fun x => (get x).known) v, [], nx, []⟩
    | _ => none
  else none
/-- Equality of values that are made of numbers. -/
def partSym (P : Program) (t : TypeId) (cs : Array Value) (off : Nat) : Option Value := symPure P (part t cs off)
mutual
def eqSym (P : Program) : Nat → TypeId → Value → Value → Option Bool
  | 0, _, _, _ => none
  | d + 1, t, x, y =>
    match P.underlying t, x, y with
    | some (.int _), .int k a, .int k' b => if k = k' then some (a == b) else none
    | some .bool, .bool a, .bool b => some (a == b)
    | some .string, .string a, .string b => some (a.toList == b.toList)
    | some (.struct fs), .agg xs, .agg ys => bif P.stoodInHeld t then none else eqFsSym P d xs ys fs.toList
    | some (.array n e), .agg xs, .agg ys => match sizeP P e with
      | some s => eqArrSym P d e xs ys s n 0
      | none => none
    | _, _, _ => none
def eqFsSym (P : Program) : Nat → Array Value → Array Value → List Field → Option Bool
  | 0, _, _, _ => none
  | _ + 1, _, _, [] => some true
  | d + 1, xs, ys, f :: fs =>
    if f.name ≠ "_" then
      match partSym P f.type xs f.offset, partSym P f.type ys f.offset with
      | some a, some b => (match eqSym P d f.type a b, eqFsSym P d xs ys fs with
        | some r, some r' => some (r && r')
        | _, _ => none)
      | _, _ => none
    else eqFsSym P d xs ys fs
def eqArrSym (P : Program) : Nat → TypeId → Array Value → Array Value → Nat → Nat → Nat → Option Bool
  | 0, _, _, _, _, _, _ => none
  | _ + 1, _, _, _, _, 0, _ => some true
  | d + 1, e, xs, ys, s, n + 1, i =>
    match partSym P e xs (i * s), partSym P e ys (i * s) with
    | some a, some b => (match eqSym P d e a b, eqArrSym P d e xs ys s n (i + 1) with
      | some r, some r' => some (r && r')
      | _, _ => none)
    | _, _ => none
end

def eqRange (D : Nat) (e : TypeId) (s : Nat) (xs ys : Array Value) : List Nat → Sem Bool
  | [] => pure true
  | i :: is => do
    let a ← part e xs (i * s)
    let b ← part e ys (i * s)
    let r ← Op.equalIn D e a b
    if (!r) = true then pure false else eqRange D e s xs ys is
theorem run_equalIn_array {P : Program} (w : World) (d : Nat) (t e : TypeId) (n s : Nat) (xs ys : Array Value) (ht : P.underlying t = some (.array n e)) (hs : sizeP P e = some s) :
    (Op.equalIn (d + 1) t (.agg xs) (.agg ys)).run P w = (eqRange d e s xs ys (List.range' 0 n)).run P w := by
  obtain ⟨i, hi, rfl⟩ := Option.map_eq_some_iff.1 hs
  have hc : P.cellsOf e = i.size := by simp [Program.cellsOf, hi]
  simp only [Op.equalIn, Sem.run_bind, run_underlying ht, Result.andThen_ok, run_sizeOf w hi, hc]
  rw [Std.Legacy.Range.forIn_eq_forIn_range']
  simp only [Std.Legacy.Range.size, Nat.sub_zero, Nat.add_sub_cancel, Nat.div_one]
  generalize List.range' 0 n = l
  induction l generalizing w with
  | nil => simp [eqRange]
  | cons j l ih =>
    simp only [List.forIn_cons, eqRange, Sem.run_bind]
    generalize (part e xs (j * i.size)).run P w = r1
    cases r1 with
    | ok a w1 =>
      simp only [Result.andThen_ok]
      generalize (part e ys (j * i.size)).run P w1 = r2
      cases r2 with
      | ok b w2 =>
        simp only [Result.andThen_ok]
        generalize (Op.equalIn d e a b).run P w2 = r3
        cases r3 with
        | ok r w3 =>
          cases r
          · simp only [Result.andThen_ok, Bool.not_false, if_true, Sem.run_pure]
          · simp only [Result.andThen_ok, Bool.not_true, Bool.false_eq_true, if_false, Sem.run_pure]
            exact ih w3
        | halt x w3 => simp [Result.andThen]
      | halt x w2 => simp [Result.andThen]
    | halt x w1 => simp [Result.andThen]
theorem eq_ok (P : Program) : ∀ d, (∀ t x y b, eqSym P d t x y = some b → ∀ D, d ≤ D → ∀ w, (Op.equalIn D t x y).run P w = .ok b w) ∧
    (∀ xs ys fs b, eqFsSym P d xs ys fs = some b → ∀ D, d ≤ D → ∀ w, (Op.eqFields D xs ys fs).run P w = .ok b w) ∧
    (∀ e xs ys s n i b, eqArrSym P d e xs ys s n i = some b → ∀ D, d ≤ D → ∀ w, (eqRange D e s xs ys (List.range' i n)).run P w = .ok b w) := by
  intro d
  induction d with
  | zero => exact ⟨fun _ _ _ _ h => by simp [eqSym] at h, fun _ _ _ _ h => by simp [eqFsSym] at h, fun _ _ _ _ _ _ _ h => by simp [eqArrSym] at h⟩
  | succ d ih =>
    obtain ⟨ih1, ih2, ih3⟩ := ih
    refine ⟨?_, ?_, ?_⟩
    · intro t x y b h D hD w
      obtain ⟨D, rfl⟩ : ∃ D', D = D' + 1 := ⟨D - 1, by omega⟩
      unfold eqSym at h
      split at h
      · rename_i k1 k a k' b' hu
        split at h
        · rename_i hk
          subst hk
          cases h
          exact run_equalIn_int w D t k k1 a b' hu
        · cases h
      · rename_i a b' hu
        cases h
        exact run_equalIn_bool w D t a b' hu
      · rename_i a b' hu
        cases h
        exact run_equalIn_string w D t a b' hu
      · rename_i fs xs ys hu
        cases hp : P.stoodInHeld t with
        | true => rw [hp] at h; simp at h
        | false =>
          rw [hp] at h
          simp only [cond_false] at h
          have hf : P.fieldsOf t = fs := by simp [Program.fieldsOf, hu]
          rw [run_equalIn_struct w D t xs ys (by rw [hf]; exact hu) hp, hf]
          exact ih2 _ _ _ _ h D (by omega) w
      · rename_i n e xs ys hu
        cases hs : sizeP P e with
        | none => rw [hs] at h; simp at h
        | some s =>
          rw [hs] at h
          simp only at h
          rw [run_equalIn_array w D t e n s xs ys hu hs]
          exact ih3 _ _ _ _ _ _ _ h D (by omega) w
      · cases h
    · intro xs ys fs b h D hD w
      cases fs with
      | nil => simp only [eqFsSym, Option.some.injEq] at h; subst h; simp [Op.eqFields]
      | cons f fs =>
        unfold eqFsSym at h
        split at h
        · rename_i hn
          split at h
          · rename_i a b1 ha hb
            split at h
            · rename_i r r' hr hr'
              cases h
              simp only [Op.eqFields, hn, ne_eq, not_false_eq_true, if_true, Sem.run_bind, symPure_run _ _ ha, symPure_run _ _ hb, Result.andThen_ok, ih1 _ _ _ _ hr D (by omega)]
              cases r
              · simp
              · simp only [Bool.not_true, Bool.false_eq_true, if_false, Bool.true_and]
                exact ih2 _ _ _ _ hr' D (by omega) w
            · cases h
          · cases h
        · rename_i hn
          simp only [Op.eqFields, hn, if_false]
          exact ih2 _ _ _ _ h D (by omega) w
    · intro e xs ys s n i b h D hD w
      cases n with
      | zero => simp only [eqArrSym, Option.some.injEq] at h; subst h; simp [eqRange]
      | succ n =>
        unfold eqArrSym at h
        split at h
        · rename_i a b1 ha hb
          split at h
          · rename_i r r' hr hr'
            cases h
            simp only [List.range'_succ, eqRange, Sem.run_bind, symPure_run _ _ ha, symPure_run _ _ hb, Result.andThen_ok, ih1 _ _ _ _ hr D (by omega)]
            cases r
            · simp
            · simp only [Bool.not_true, Bool.false_eq_true, if_false, Bool.true_and]
              exact ih3 _ _ _ _ _ _ _ hr' D (by omega) w
          · cases h
        · cases h
end Go.Proofs.Ythgneojhhocflaa
