/- A symbolic way through the code of a call: contracts as they are laid. No condition. -/
import Derived.Test.YthgneojhhocflaaEng11
set_option linter.unusedVariables false
namespace Go.Proofs.Ythgneojhhocflaa
open Go.RowKit

/-- Settled tests, as a list. -/
def factsL : List (Nat × Bool × Bool) → Nat → Option (Bool × Bool)
  | [], _ => none
  | (n, b, d) :: l, k => bif Nat.beq k n then some (b, d) else factsL l k
theorem factsL_ok {l : List (Nat × Bool × Bool)} (h : ∀ p ∈ l, p.2.1 = p.2.2) : FactsOk (factsL l) := by
  induction l with
  | nil => intro k b d hk; cases hk
  | cons p l ih =>
    obtain ⟨n, b0, d0⟩ := p
    intro k b d hk
    simp only [factsL] at hk
    cases hb : Nat.beq k n with
    | true =>
      rw [hb] at hk
      simp only [cond_true, Option.some.injEq, Prod.mk.injEq] at hk
      have := h (n, b0, d0) (by simp)
      rw [← hk.1, ← hk.2]; exact this
    | false =>
      rw [hb] at hk
      exact ih (fun q hq => h q (by simp [hq])) k b d hk
theorem factsL_nil : FactsOk (factsL []) := factsL_ok (by simp)
theorem factsL_cons {n : Nat} {b d : Bool} {l : List (Nat × Bool × Bool)} (h : b = d) (k : FactsOk (factsL l)) : FactsOk (factsL ((n, b, d) :: l)) := by
  intro j b' d' hj
  simp only [factsL] at hj
  cases hb : Nat.beq j n with
  | true =>
    rw [hb] at hj
    simp only [cond_true, Option.some.injEq, Prod.mk.injEq] at hj
    rw [← hj.1, ← hj.2]; exact h
  | false =>
    rw [hb] at hj
    exact k j b' d' hj
def valsOf : List RV → Option (List Value)
  | [] => some []
  | r :: l => match r.ids, valsOf l with
    | [], some vs => some (r.den env0 :: vs)
    | _, _ => none
theorem valsOf_spec (e : Env) : ∀ (l : List RV) (vs : List Value), valsOf l = some vs → l.map (RV.den e) = vs := by
  intro l
  induction l with
  | nil => intro vs h; simp only [valsOf, Option.some.injEq] at h; subst h; rfl
  | cons r l ih =>
    intro vs h
    simp only [valsOf] at h
    split at h
    · rename_i vs' hr hl
      cases h
      rw [List.map_cons, ih _ hl, RV.den_same r fun id hid => by rw [hr] at hid; cases hid]
    · cases h
theorem callOk_of_below {P : Program} {f : FuncId} {args : List RV} {hp : Hp} {nx : Nat} {vs : List Value} {V : Value} {k : Bool} (hv : valsOf args = some vs)
    (h : ∀ w, Calls P f vs.toArray w fun en w' => en = .returned V ∧ Below w.heap.size w w') : CallOk P f args hp nx (.val nx (RV.ofVal k V)) := by
  intro e w hs
  rw [valsOf_spec e args vs hv]
  refine (h w).mono fun en w' ⟨hen, hb⟩ => ⟨e, by rw [hen, Out.val, RV.den_ofVal], ⟨fun _ _ => .refl _ _, hb.os, hb.tape, hb.output, hb.size, fun k hk _ => hb.block k hk, ⟨fun _ _ h => by simp [Out.val, hlook] at h, fun _ _ h => by simp [Out.val, hlook] at h⟩, fun _ _ _ h => by simp [Out.val, hlook] at h, fun _ _ _ h => by simp [Out.val, hlook] at h⟩⟩
/-- A function of values that answers a value. -/
def conV (P : Program) (f : FuncId) (g : List Value → Option Value) (ok : ∀ vs V, g vs = some V → ∀ w, Calls P f vs.toArray w fun en w' => en = .returned V ∧ Below w.heap.size w w') : Con P where
  f := f
  g := fun args _ nx => match valsOf args with
    | some vs => (match g vs with
      | some V => some (none, .val nx (RV.ofVal (args.all RV.known) V))
      | none => none)
    | none => none
  ok := by
    intro args hp nx p out _ h _
    split at h
    · rename_i vs hv
      split at h
      · rename_i V hV
        cases h
        exact callOk_of_below hv (ok vs V hV)
      · cases h
    · cases h
/-- The same, its answer not taken for written out. -/
def Con.unk {P : Program} (c : Con P) : Con P where
  f := c.f
  g := fun args hp nx => match c.g args hp nx with
    | some (p, out) => some (p, ⟨out.v.unk, out.up, out.nx, out.W⟩)
    | none => none
  ok := by
    intro args hp nx p out hn h hm
    split at h
    · rename_i p' out' ho
      cases h
      intro e w hs
      refine (c.ok args hp nx _ _ hn ho hm e w hs).mono fun en w' ⟨e', hen, hp'⟩ => ⟨e', by rw [hen, RV.unk_den], ⟨hp'.agree, hp'.os, hp'.tape, hp'.output, hp'.size, hp'.fr, hp'.sat, hp'.own, hp'.foot⟩⟩
    · cases h
theorem same_below {P : Program} {f : FuncId} {args : Array Value} {w : World} {V : Value} (h : Calls P f args w fun e w' => e = .returned V ∧ w = w') : Calls P f args w fun en w' => en = .returned V ∧ Below w.heap.size w w' :=
  h.mono fun _ _ ⟨he, hw⟩ => ⟨he, by subst hw; exact Below.refl _ _⟩
def int1 (s : Int → Int) : List Value → Option Value
  | [.int .i64 a] => some (.int .i64 (s a))
  | _ => none
def int2 (s : Int → Int → Int) : List Value → Option Value
  | [.int .i64 a, .int .i64 b] => some (.int .i64 (s a b))
  | _ => none
def int3 (s : Int → Int → Int → Int) : List Value → Option Value
  | [.int .i64 a, .int .i64 b, .int .i64 c] => some (.int .i64 (s a b c))
  | _ => none
def conI1 (P : Program) (f : FuncId) (s : Int → Int) (h : ∀ a w, Calls P f #[.int .i64 a] w fun e w' => e = .returned (.int .i64 (s a)) ∧ w = w') : Con P :=
  conV P f (int1 s) fun vs V hV w => by
    unfold int1 at hV
    split at hV
    · cases hV; exact same_below (h _ w)
    · cases hV
def conI2 (P : Program) (f : FuncId) (s : Int → Int → Int) (h : ∀ a b w, Calls P f #[.int .i64 a, .int .i64 b] w fun e w' => e = .returned (.int .i64 (s a b)) ∧ w = w') : Con P :=
  conV P f (int2 s) fun vs V hV w => by
    unfold int2 at hV
    split at hV
    · cases hV; exact same_below (h _ _ w)
    · cases hV
def conI3 (P : Program) (f : FuncId) (s : Int → Int → Int → Int) (h : ∀ a b c w, Calls P f #[.int .i64 a, .int .i64 b, .int .i64 c] w fun e w' => e = .returned (.int .i64 (s a b c)) ∧ w = w') : Con P :=
  conV P f (int3 s) fun vs V hV w => by
    unfold int3 at hV
    split at hV
    · cases hV; exact same_below (h _ _ _ w)
    · cases hV
/-- A function that always answers one and the same. -/
def conC (P : Program) (f : FuncId) (V : Value) (h : ∀ w, Calls P f #[] w fun e w' => e = .returned V ∧ Below w.heap.size w w') : Con P :=
  conV P f (fun | [] => some V | _ => none) fun vs V' hV w => by
    split at hV
    · cases hV; exact h w
    · cases hV
end Go.Proofs.Ythgneojhhocflaa
