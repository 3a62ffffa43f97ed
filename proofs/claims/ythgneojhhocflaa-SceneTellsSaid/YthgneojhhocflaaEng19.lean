/- Contracts that are found by the kinds of their arguments' cells. No condition. -/
import Derived.Test.YthgneojhhocflaaEng18
set_option linter.unusedVariables false
namespace Go.Proofs.Ythgneojhhocflaa
open Go.RowKit

/-- A cell's kind in an argument: a value, a slice that is read, a slice of one's own, a nil slice. -/
inductive CSh where
  | int (k : IntKind)
  | bool
  | str
  | grid (sh : List Sh)
  | row (sh : List Sh) (t : TypeId)
  | nil
  | fn (f : FuncId)
/-- An argument's kind: a value, a struct, a pointer to a block of one's own. -/
inductive ASh where
  | one (c : CSh)
  | agg (cs : List CSh)
  | ptr (t : TypeId) (cs : List CSh)
  | clo (f : FuncId) (t : TypeId) (cs : List CSh)
  | bm (f : FuncId) (cs : List CSh)
def CSh.cv (x : Ct) (n : Nat) : CSh → CV
  | .int k => .val false (.int k x.int)
  | .bool => .val false (.bool x.bool)
  | .str => .val false (.string x.str)
  | .grid _ => .ext n
  | .row _ _ => .ext n
  | .nil => .val true (.slice none 0 0)
  | .fn f => .fn f []
def CSh.hp (x : Ct) (n : Nat) : CSh → Hp
  | .grid sh => [(n, .grid sh x.rows)]
  | .row sh t => [(n, .row sh t x.rows)]
  | _ => []
def CSh.nm : CSh → Nat
  | .grid _ => 1
  | .row _ _ => 1
  | _ => 0
def cvS (x : List Ct) : List CSh → Nat → Nat → List CV
  | [], _, _ => []
  | c :: cs, k, n => c.cv (x.getD k (.i 0)) n :: cvS x cs (k + 1) (n + c.nm)
def hpS (x : List Ct) : List CSh → Nat → Nat → Hp
  | [], _, _ => []
  | c :: cs, k, n => c.hp (x.getD k (.i 0)) n ++ hpS x cs (k + 1) (n + c.nm)
def nmS : List CSh → Nat
  | [] => 0
  | c :: cs => c.nm + nmS cs
def toBm : CV → BV
  | .val _ v => .inl v
  | .ext id => .inr id
  | .sl id off len cap => .sl id off len cap
  | _ => .inl undef
theorem toBm_unk (p : BV) : toBm (bmCV p).unk = p := by cases p <;> rfl
theorem toBm_inst (g : Nat → Nat) (c : CV) : toBm (c.inst g).unk = bmMap g (toBm c) := by cases c <;> rfl
def ASh.rv (x : List Ct) (k n : Nat) : ASh → RV
  | .one c => .sv (.one (c.cv (x.getD k (.i 0)) n))
  | .agg cs => .sv (.agg (cvS x cs k n))
  | .ptr _ _ => .sv (.one (.ptr n 0))
  | .clo f _ _ => .sv (.one (.fn f [(n, 0)]))
  | .bm f cs => .sv (.one (.bm f ((cvS x cs k n).map toBm)))
def ASh.hp (x : List Ct) (k n : Nat) : ASh → Hp
  | .one c => c.hp (x.getD k (.i 0)) n
  | .agg cs => hpS x cs k n
  | .ptr t cs => (n, .cells (cvS x cs k (n + 1)) t) :: hpS x cs k (n + 1)
  | .clo _ t cs => (n, .cells (cvS x cs k (n + 1)) t) :: hpS x cs k (n + 1)
  | .bm _ cs => hpS x cs k n
def ASh.nm : ASh → Nat
  | .one c => c.nm
  | .agg cs => nmS cs
  | .ptr _ cs => nmS cs + 1
  | .clo _ _ cs => nmS cs + 1
  | .bm _ cs => nmS cs
def ASh.len : ASh → Nat
  | .one _ => 1
  | .agg cs => cs.length
  | .ptr _ cs => cs.length
  | .clo _ _ cs => cs.length
  | .bm _ cs => cs.length
def rvA (x : List Ct) : List ASh → Nat → Nat → List RV
  | [], _, _ => []
  | a :: ass, k, n => a.rv x k n :: rvA x ass (k + a.len) (n + a.nm)
def hpA (x : List Ct) : List ASh → Nat → Nat → Hp
  | [], _, _ => []
  | a :: ass, k, n => a.hp x k n ++ hpA x ass (k + a.len) (n + a.nm)
def nmA : List ASh → Nat
  | [] => 0
  | a :: ass => a.nm + nmA ass
/-- What stands there. -/
def mC (hp : Hp) : CSh → CV → Option (Ct × List Nat)
  | .int k, .val _ (.int k' n) => if k = k' then some (.i n, []) else none
  | .bool, .val _ (.bool b) => some (.b b, [])
  | .str, .val _ (.string s) => some (.s s, [])
  | .grid sh, .ext i => (match gridAt hp i sh with
    | some l => some (.l l, [i])
    | none => none)
  | .row sh t, .ext i => (match rowAt hp i sh t with
    | some l => some (.l l, [i])
    | none => none)
  | .nil, .val _ (.slice none 0 0) => some (.i 0, [])
  | .fn f, .fn g [] => bif Nat.beq f g then some (.i 0, []) else none
  | _, _ => none
def mS (hp : Hp) : List CSh → List CV → Option (List Ct × List Nat)
  | [], [] => some ([], [])
  | c :: cs, v :: vs => (match mC hp c v, mS hp cs vs with
    | some (a, i), some (l, r) => some (a :: l, i ++ r)
    | _, _ => none)
  | _, _ => none
def mA1 (hp : Hp) : ASh → RV → Option (List Ct × List Nat)
  | .one c, .sv (.one v) => (match mC hp c v with
    | some (a, i) => some ([a], i)
    | none => none)
  | .agg cs, .sv (.agg vs) => mS hp cs vs
  | .ptr t cs, .sv (.one (.ptr i 0)) => (match cellsAt hp i t with
    | some vs => (match mS hp cs vs with
      | some (l, r) => some (l, i :: r)
      | none => none)
    | none => none)
  | .clo f t cs, .sv (.one (.fn f' [(i, 0)])) => bif Nat.beq f f' then (match cellsAt hp i t with
    | some vs => (match mS hp cs vs with
      | some (l, r) => some (l, i :: r)
      | none => none)
    | none => none) else none
  | .bm f cs, .sv (.one (.bm f' vs)) => bif Nat.beq f f' then mS hp cs (vs.map bmCV) else none
  | _, _ => none
def mA (hp : Hp) : List ASh → List RV → Option (List Ct × List Nat)
  | [], [] => some ([], [])
  | a :: ass, v :: vs => (match mA1 hp a v, mA hp ass vs with
    | some (l, i), some (l', r) => some (l ++ l', i ++ r)
    | _, _ => none)
  | _, _ => none

section
variable {hp : Hp} {g : Nat → Nat} {x : List Ct}
/-- From place k and name n on stands what was found. -/
structure At0 (g : Nat → Nat) (x : List Ct) (l : List Ct) (r : List Nat) (k n : Nat) : Prop where
  x : ∀ j, j < l.length → x.getD (k + j) (.i 0) = l.getD j (.i 0)
  g : ∀ j, j < r.length → g (n + j) = r.getD j 0
theorem At0.left {l l' : List Ct} {r r' : List Nat} {k n : Nat} (h : At0 g x (l ++ l') (r ++ r') k n) : At0 g x l r k n :=
  ⟨fun j hj => by rw [h.x j (by simp; omega)]; simp [List.getD, List.getElem?_append_left hj], fun j hj => by rw [h.g j (by simp; omega)]; simp [List.getD, List.getElem?_append_left hj]⟩
theorem At0.right {l l' : List Ct} {r r' : List Nat} {k n : Nat} (h : At0 g x (l ++ l') (r ++ r') k n) : At0 g x l' r' (k + l.length) (n + r.length) :=
  ⟨fun j hj => by rw [Nat.add_assoc, h.x (l.length + j) (by simp; omega)]; simp [List.getD, List.getElem?_append_right], fun j hj => by rw [Nat.add_assoc, h.g (r.length + j) (by simp; omega)]; simp [List.getD, List.getElem?_append_right]⟩
theorem mC_spec {c : CSh} {v : CV} {a : Ct} {i : List Nat} (h : mC hp c v = some (a, i)) : i.length = c.nm ∧ (∀ q ∈ i, q ∈ v.ids) ∧ ∀ n, (∀ j, j < i.length → g (n + j) = i.getD j 0) →
    v.unk = ((c.cv a n).inst g).unk ∧ ∀ id o, (id, o) ∈ c.hp a n → ∃ o', hlook hp (g id) = some o' ∧ o'.unk = (o.inst g).unk := by
  unfold mC at h
  split at h
  · split at h
    · rename_i hk
      cases h
      subst hk
      exact ⟨rfl, fun q hq => (by cases hq), fun n _ => ⟨rfl, fun id o ho => (by cases ho)⟩⟩
    · cases h
  · cases h
    exact ⟨rfl, fun q hq => (by cases hq), fun n _ => ⟨rfl, fun id o ho => (by cases ho)⟩⟩
  · cases h
    exact ⟨rfl, fun q hq => (by cases hq), fun n _ => ⟨rfl, fun id o ho => (by cases ho)⟩⟩
  · split at h
    · rename_i l hg
      cases h
      refine ⟨rfl, fun q hq => by simpa [CV.ids] using hq, fun n hn => ?_⟩
      have h0 := hn 0 (by simp)
      simp only [Nat.add_zero, List.getD_cons_zero] at h0
      refine ⟨by simp [CSh.cv, CV.inst, CV.unk, h0], fun id o ho => ?_⟩
      simp only [CSh.hp, List.mem_singleton, Prod.mk.injEq] at ho
      obtain ⟨rfl, rfl⟩ := ho
      rw [h0]
      exact ⟨_, gridAt_spec hg, rfl⟩
    · cases h
  · split at h
    · rename_i l hg
      cases h
      refine ⟨rfl, fun q hq => by simpa [CV.ids] using hq, fun n hn => ?_⟩
      have h0 := hn 0 (by simp)
      simp only [Nat.add_zero, List.getD_cons_zero] at h0
      refine ⟨by simp [CSh.cv, CV.inst, CV.unk, h0], fun id o ho => ?_⟩
      simp only [CSh.hp, List.mem_singleton, Prod.mk.injEq] at ho
      obtain ⟨rfl, rfl⟩ := ho
      rw [h0]
      exact ⟨_, rowAt_spec hg, rfl⟩
    · cases h
  · cases h
    exact ⟨rfl, fun q hq => (by cases hq), fun n _ => ⟨rfl, fun id o ho => (by cases ho)⟩⟩
  · rename_i f f'
    cases hb : Nat.beq f f' with
    | false => rw [hb] at h; cases h
    | true =>
      rw [hb] at h
      cases h
      rw [Nat.eq_of_beq_eq_true hb]
      exact ⟨rfl, fun q hq => (by cases hq), fun n _ => ⟨rfl, fun id o ho => (by cases ho)⟩⟩
  · cases h
theorem mS_spec : ∀ {cs : List CSh} {vs : List CV} {l : List Ct} {r : List Nat}, mS hp cs vs = some (l, r) → l.length = cs.length ∧ r.length = nmS cs ∧ (∀ q ∈ r, ∃ v ∈ vs, q ∈ v.ids) ∧ ∀ k n, At0 g x l r k n →
    vs.map CV.unk = ((cvS x cs k n).map (CV.inst g)).map CV.unk ∧ ∀ id o, (id, o) ∈ hpS x cs k n → ∃ o', hlook hp (g id) = some o' ∧ o'.unk = (o.inst g).unk := by
  intro cs
  induction cs with
  | nil =>
    intro vs l r h
    cases vs with
    | nil => simp only [mS, Option.some.injEq, Prod.mk.injEq] at h; obtain ⟨rfl, rfl⟩ := h; exact ⟨rfl, rfl, fun q hq => (by cases hq), fun k n _ => ⟨rfl, fun id o ho => (by cases ho)⟩⟩
    | cons v vs => simp [mS] at h
  | cons c cs ih =>
    intro vs l r h
    cases vs with
    | nil => simp [mS] at h
    | cons v vs =>
      simp only [mS] at h
      split at h
      · rename_i a i l' r' h1 h2
        simp only [Option.some.injEq, Prod.mk.injEq] at h
        obtain ⟨rfl, rfl⟩ := h
        obtain ⟨g1, g2, g3⟩ := mC_spec (g := g) h1
        obtain ⟨k1, k2, k3, k4⟩ := ih h2
        refine ⟨by simp [k1], by simp [nmS, g1, k2], fun q hq => ?_, fun k n hat => ?_⟩
        · rcases List.mem_append.1 hq with hq | hq
          · exact ⟨v, List.mem_cons_self, g2 q hq⟩
          · obtain ⟨w, hw, hq⟩ := k3 q hq
            exact ⟨w, List.mem_cons_of_mem _ hw, hq⟩
        · have hat' : At0 g x ([a] ++ l') (i ++ r') k n := hat
          have hx : x.getD k (.i 0) = a := by have := hat'.left.x 0 (by simp); simpa using this
          obtain ⟨q1, q2⟩ := g3 n hat'.left.g
          obtain ⟨q3, q4⟩ := k4 (k + 1) (n + c.nm) (by have := hat'.right; rw [g1] at this; exact this)
          refine ⟨by simp only [cvS, List.map_cons, hx, q1, q3], fun id o ho => ?_⟩
          simp only [hpS, hx] at ho
          rcases List.mem_append.1 ho with ho | ho
          · exact q2 id o ho
          · exact q4 id o ho
      · cases h
theorem mA1_spec {a : ASh} {v : RV} {l : List Ct} {r : List Nat} (h : mA1 hp a v = some (l, r)) : l.length = a.len ∧ r.length = a.nm ∧ (∀ q ∈ r, q ∈ v.ids ∨ ∃ j ∈ v.ids, ∃ o, hlook hp j = some o ∧ q ∈ o.ids) ∧ ∀ k n, At0 g x l r k n →
    v.unk = ((a.rv x k n).inst g).unk ∧ ∀ id o, (id, o) ∈ a.hp x k n → ∃ o', hlook hp (g id) = some o' ∧ o'.unk = (o.inst g).unk := by
  unfold mA1 at h
  split at h
  · rename_i c v
    split at h
    · rename_i b i h1
      cases h
      obtain ⟨g1, g2, g3⟩ := mC_spec (g := g) h1
      refine ⟨rfl, g1, fun q hq => .inl (g2 q hq), fun k n hat => ?_⟩
      have hx : x.getD k (.i 0) = b := by have := hat.x 0 (by simp); simpa using this
      obtain ⟨q1, q2⟩ := g3 n hat.g
      exact ⟨by simp only [ASh.rv, hx, RV.inst, SV.inst, RV.unk, SV.unk, q1], fun id o ho => q2 id o (by simpa only [ASh.hp, hx] using ho)⟩
    · cases h
  · rename_i cs vs
    obtain ⟨k1, k2, k3, k4⟩ := mS_spec (g := g) (x := x) h
    refine ⟨k1, k2, fun q hq => .inl ?_, fun k n hat => ?_⟩
    · obtain ⟨w, hw, hq⟩ := k3 q hq
      exact List.mem_flatMap.2 ⟨w, hw, hq⟩
    · obtain ⟨q1, q2⟩ := k4 k n hat
      exact ⟨by simp only [ASh.rv, RV.inst, SV.inst, RV.unk, SV.unk, q1], q2⟩
  · rename_i t cs i
    split at h
    · rename_i vs hc
      split at h
      · rename_i l' r' hm
        cases h
        obtain ⟨k1, k2, k3, k4⟩ := mS_spec (g := g) (x := x) hm
        refine ⟨k1, by simp [ASh.nm, k2], fun q hq => ?_, fun k n hat => ?_⟩
        · rcases List.mem_cons.1 hq with rfl | hq
          · exact .inl (by simp [RV.ids, SV.ids, CV.ids])
          · obtain ⟨w, hw, hq⟩ := k3 q hq
            exact .inr ⟨i, by simp [RV.ids, SV.ids, CV.ids], _, cellsAt_spec hc, List.mem_flatMap.2 ⟨w, hw, hq⟩⟩
        · have hg : g n = i := by have := hat.g 0 (by simp); simpa using this
          have hat' : At0 g x l r' k (n + 1) := ⟨hat.x, fun j hj => by have := hat.g (j + 1) (by simp; omega); rw [show n + (j + 1) = n + 1 + j by omega] at this; simpa using this⟩
          obtain ⟨q1, q2⟩ := k4 k (n + 1) hat'
          refine ⟨by simp [ASh.rv, RV.inst, SV.inst, RV.unk, SV.unk, CV.inst, CV.unk, hg], fun id o ho => ?_⟩
          simp only [ASh.hp, List.mem_cons, Prod.mk.injEq] at ho
          rcases ho with ⟨rfl, rfl⟩ | ho
          · rw [hg]
            exact ⟨_, cellsAt_spec hc, by simp only [HO.inst, HO.unk, q1]⟩
          · exact q2 id o ho
      · cases h
    · cases h
  · rename_i f t cs f' i
    cases hb : Nat.beq f f' with
    | false => rw [hb] at h; cases h
    | true =>
    rw [hb] at h
    simp only [cond_true] at h
    have hff := Nat.eq_of_beq_eq_true hb
    subst hff
    split at h
    · rename_i vs hc
      split at h
      · rename_i l' r' hm
        cases h
        obtain ⟨k1, k2, k3, k4⟩ := mS_spec (g := g) (x := x) hm
        refine ⟨k1, by simp [ASh.nm, k2], fun q hq => ?_, fun k n hat => ?_⟩
        · rcases List.mem_cons.1 hq with rfl | hq
          · exact .inl (by simp [RV.ids, SV.ids, CV.ids])
          · obtain ⟨w, hw, hq⟩ := k3 q hq
            exact .inr ⟨i, by simp [RV.ids, SV.ids, CV.ids], _, cellsAt_spec hc, List.mem_flatMap.2 ⟨w, hw, hq⟩⟩
        · have hg : g n = i := by have := hat.g 0 (by simp); simpa using this
          have hat' : At0 g x l r' k (n + 1) := ⟨hat.x, fun j hj => by have := hat.g (j + 1) (by simp; omega); rw [show n + (j + 1) = n + 1 + j by omega] at this; simpa using this⟩
          obtain ⟨q1, q2⟩ := k4 k (n + 1) hat'
          refine ⟨by simp [ASh.rv, RV.inst, SV.inst, RV.unk, SV.unk, CV.inst, CV.unk, hg], fun id o ho => ?_⟩
          simp only [ASh.hp, List.mem_cons, Prod.mk.injEq] at ho
          rcases ho with ⟨rfl, rfl⟩ | ho
          · rw [hg]
            exact ⟨_, cellsAt_spec hc, by simp only [HO.inst, HO.unk, q1]⟩
          · exact q2 id o ho
      · cases h
    · cases h
  · rename_i f cs f' vs
    cases hb : Nat.beq f f' with
    | false => rw [hb] at h; cases h
    | true =>
    rw [hb] at h
    simp only [cond_true] at h
    have hff := Nat.eq_of_beq_eq_true hb
    subst hff
    obtain ⟨k1, k2, k3, k4⟩ := mS_spec (g := g) (x := x) h
    refine ⟨k1, k2, fun q hq => .inl ?_, fun k n hat => ?_⟩
    · obtain ⟨w, hw, hq⟩ := k3 q hq
      obtain ⟨p, hp', rfl⟩ := List.mem_map.1 hw
      simp only [RV.ids, SV.ids, CV.ids, List.mem_flatMap]
      refine ⟨p, hp', ?_⟩
      cases p with
      | inl v => cases hq
      | inr id => exact hq
      | sl id off len cap => exact hq
    · obtain ⟨q1, q2⟩ := k4 k n hat
      have q3 := congrArg (List.map toBm) q1
      simp only [List.map_map, Function.comp_def, toBm_unk, toBm_inst, List.map_id'] at q3
      exact ⟨by simp only [ASh.rv, RV.inst, SV.inst, RV.unk, SV.unk, CV.inst, CV.unk, List.map_map, Function.comp_def, ← q3], q2⟩
  · cases h
theorem mA_spec : ∀ {ass : List ASh} {vs : List RV} {l : List Ct} {r : List Nat}, mA hp ass vs = some (l, r) → r.length = nmA ass ∧ (∀ q ∈ r, ∃ a ∈ vs, q ∈ a.ids ∨ ∃ j ∈ a.ids, ∃ o, hlook hp j = some o ∧ q ∈ o.ids) ∧ ∀ k n, At0 g x l r k n →
    vs.map RV.unk = ((rvA x ass k n).map (RV.inst g)).map RV.unk ∧ ∀ id o, (id, o) ∈ hpA x ass k n → ∃ o', hlook hp (g id) = some o' ∧ o'.unk = (o.inst g).unk := by
  intro ass
  induction ass with
  | nil =>
    intro vs l r h
    cases vs with
    | nil => simp only [mA, Option.some.injEq, Prod.mk.injEq] at h; obtain ⟨rfl, rfl⟩ := h; exact ⟨rfl, fun q hq => (by cases hq), fun k n _ => ⟨rfl, fun id o ho => (by cases ho)⟩⟩
    | cons v vs => simp [mA] at h
  | cons a ass ih =>
    intro vs l r h
    cases vs with
    | nil => simp [mA] at h
    | cons v vs =>
      simp only [mA] at h
      split at h
      · rename_i l1 i l' r' h1 h2
        simp only [Option.some.injEq, Prod.mk.injEq] at h
        obtain ⟨rfl, rfl⟩ := h
        obtain ⟨g1, g2, g3, g4⟩ := mA1_spec (g := g) (x := x) h1
        obtain ⟨k1, k2, k3⟩ := ih h2
        refine ⟨by simp [nmA, g2, k1], fun q hq => ?_, fun k n hat => ?_⟩
        · rcases List.mem_append.1 hq with hq | hq
          · exact ⟨v, List.mem_cons_self, g3 q hq⟩
          · obtain ⟨w, hw, hq⟩ := k2 q hq
            exact ⟨w, List.mem_cons_of_mem _ hw, hq⟩
        · obtain ⟨q1, q2⟩ := g4 k n hat.left
          obtain ⟨q3, q4⟩ := k3 (k + a.len) (n + a.nm) (by have := hat.right; rw [g1, g2] at this; exact this)
          refine ⟨by simp only [rvA, List.map_cons, q1, q3], fun id o ho => ?_⟩
          simp only [hpA] at ho
          rcases List.mem_append.1 ho with ho | ho
          · exact q2 id o ho
          · exact q4 id o ho
      · cases h
end
/-- A contract by its arguments' kinds: x are their cells. -/
def conS (P : Program) (f : FuncId) (ass : List ASh) (pre : List Ct → Option Bool) (out0 : List Ct → Out)
    (ok : ∀ x, Must (pre x) → namesB ⟨rvA x ass 0 0, hpA x ass 0 0, nmA ass, []⟩ = true ∧ outB (nmA ass) (out0 x) = true ∧ CallOk P f (rvA x ass 0 0) (hpA x ass 0 0) (nmA ass) (out0 x)) : Con P :=
  conX P f (fun args hp => mA hp ass args) (nmA ass) (fun x => rvA x ass 0 0) (fun x => hpA x ass 0 0) pre out0
    (by
      intro args hp x r h
      refine ⟨(mA_spec (g := fun i => i) (x := x) h).1, fun nx => ?_⟩
      have hlen := (mA_spec (g := fun i => i) (x := x) h).1
      obtain ⟨_, k2, k3⟩ := mA_spec (g := instId r (nmA ass) nx) (x := x) h
      obtain ⟨q1, q2⟩ := k3 0 0 ⟨fun j _ => by rw [Nat.zero_add], fun j hj => by
        have : Nat.blt j (nmA ass) = true := Nat.ble_eq_true_of_le (by omega)
        unfold instId
        rw [Nat.zero_add, this]; rfl⟩
      exact ⟨q1, k2, fun id o0 ho => q2 id o0 (hlook_mem ho)⟩)
    ok
/-- Two contracts of one function: the second where the first does not fit. -/
def Con.or {P : Program} (a b : Con P) (hf : b.f = a.f) : Con P where
  f := a.f
  g := fun args hp nx => match a.g args hp nx with
    | some q => some q
    | none => b.g args hp nx
  ok := by
    intro args hp nx p out hn h hp'
    split at h
    · rename_i q hq
      cases h
      exact a.ok args hp nx p out hn hq hp'
    · rw [← hf]
      exact b.ok args hp nx p out hn h hp'
end Go.Proofs.Ythgneojhhocflaa
