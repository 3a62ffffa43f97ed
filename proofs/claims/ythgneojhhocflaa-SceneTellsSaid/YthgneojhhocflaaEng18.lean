/- A call by the place where its body ends: ways that end under unlike names are laid into one. No condition. -/
import Derived.Test.YthgneojhhocflaaEng17
set_option linter.unusedVariables false
namespace Go.Proofs.Ythgneojhhocflaa
open Go.RowKit

/-- What a place answers. -/
def resO (P : Program) (f : FuncId) (s : St) (nx : Nat) : Option Out :=
  match P.funcs[f]? with
  | some fn => (match resAll P s.fr s.hp fn.results.toList with
    | some l => (fun (rv : RV) (W : List Nat) => some ⟨rv, restrict s.hp ((reach s.hp 400 (rv.ids ++ W) []).filter fun i => Nat.ble nx i || W.any (Nat.beq i)), s.nx, W⟩) (oneOrTup l) (s.W.filter fun i => Nat.blt i nx)
    | none => none)
  | none => none
def bodyK {R : Type} (n0 : Nat) (st : St) (T : R → St) (rd : Ex → St → Option R × List (Nat × Option Nat)) (ex : Ex) (s : St) : FR R :=
  match ex with
  | .exit _ => (algF R).fail
  | .normal => (match rd .normal s with
    | (some r, rn) => landF n0 st .normal rn (T r) .normal s r
    | (none, _) => (algF R).fail)
  | .ret => (match rd .ret s with
    | (some r, rn) => landF n0 st .ret rn (T r) .ret s r
    | (none, _) => (algF R).fail)
def evBodyT {R : Type} {P : Program} (C : Cfg P) (n : Nat) (f : FuncId) (args : List RV) (hp : Hp) (nx : Nat) (T : R → St) (rd : Ex → St → Option R × List (Nat × Option Nat)) : FR R :=
  match P.funcs[f]? with
  | some fn => (match fn.body with
    | some c => piece (algF R) C n f nx c (startSt fn args hp nx) (bodyK nx (startSt fn args hp nx) T rd)
    | none => (algF R).fail)
  | none => (algF R).fail
theorem eng_body {R : Type} {P : Program} {C : Cfg P} (hf : FactsOk C.facts) {n : Nat} {f : FuncId} {args : List RV} {hp : Hp} {nx : Nat} (T : R → St) (O : R → Out) (rd : Ex → St → Option R × List (Nat × Option Nat)) {o : Option R} (hnm : namesB ⟨args, hp, nx, []⟩ = true) (hO : ∀ r, resO P f (T r) nx = some (O r))
    (h : (fun r : FR R => (r.l, r.o)) (evBodyT C n f args hp nx T rd) = (fun r : FR R => (r.r, o)) (evBodyT C n f args hp nx T rd)) {r : R} (ho : o = some r) : CallOk P f args hp nx (O r) := by
  simp only [Prod.mk.injEq] at h
  subst ho
  obtain ⟨h1, h2⟩ := h
  have hO := hO r
  unfold evBodyT at h1 h2
  unfold resO at hO
  split at h1
  · rename_i fn hfn
    rw [hfn] at h2 hO
    simp only at h2 hO
    split at h1
    · rename_i c hc
      rw [hc] at h2
      simp only at h2
      have hnm' := namesB_spec hnm
      obtain ⟨ex, s, g1, _, g3⟩ := evCode_ok hf (evCall_ok hf n) (jnN_ok hf (evCall_ok hf n) (gsim_J n) _) c (startSt fn args hp nx) (fun ex s => FR.is r (bodyK nx (startSt fn args hp nx) T rd ex s)) (names_pad hnm') (gsim_code (sound_F r) (gsim_call (sound_F r) n) c (startSt fn args hp nx) _ _ (fun ex s hg => hg) ⟨h1, h2⟩)
      have key : ∃ ex', (ex' = .normal ∨ ex' = .ret) ∧ CodeTo P nx c (startSt fn args hp nx) (At1 ex' (T r)) := by
        cases ex with
        | exit i => exact absurd g3 (sound_F r).fail
        | normal =>
          unfold bodyK at g3
          simp only at g3
          split at g3
          · obtain ⟨k1, k2⟩ := landF_ok g1 g3
            subst k1
            exact ⟨_, .inl rfl, k2⟩
          · exact absurd g3 (sound_F r).fail
        | ret =>
          unfold bodyK at g3
          simp only at g3
          split at g3
          · obtain ⟨k1, k2⟩ := landF_ok g1 g3
            subst k1
            exact ⟨_, .inr rfl, k2⟩
          · exact absurd g3 (sound_F r).fail
      obtain ⟨ex', hex, hto⟩ := key
      have hr : evRes algP P fn (T r) nx (fun out => out = O r) := by
        unfold evRes
        split at hO
        · rename_i l hl
          rw [hl]
          simpa using hO
        · cases hO
      obtain ⟨out, k1, k2, k3, k4, k5, l, k6, k7⟩ := evRes_ok hr
      subst k1
      exact callOk_of_to hfn hc hnm' (hto.mono fun ex'' s' hh => by
        obtain ⟨rfl, rfl⟩ := hh
        exact ⟨hex, k3, k4, k5, l, k6, k7⟩)
    · rename_i hc
      rw [hc] at h2
      exact absurd ⟨h1, h2⟩ (sound_F r).fail
  · rename_i hfn
    rw [hfn] at h2
    exact absurd ⟨h1, h2⟩ (sound_F r).fail
/-- A block of one's own, a slice of one's own, under these names. -/
def cellsAt (hp : Hp) (id : Nat) (t : TypeId) : Option (List CV) := match hlook hp id with
  | some (.cells cs t') => bif Nat.beq t' t then some cs else none
  | _ => none
theorem cellsAt_spec {hp : Hp} {id : Nat} {t : TypeId} {cs : List CV} (h : cellsAt hp id t = some cs) : hlook hp id = some (.cells cs t) := by
  unfold cellsAt at h
  split at h
  · rename_i cs' t' ho
    cases hb : Nat.beq t' t with
    | false => rw [hb] at h; cases h
    | true =>
      rw [hb] at h
      cases h
      rw [ho, Nat.eq_of_beq_eq_true hb]
  · cases h
def rowAt (hp : Hp) (id : Nat) (sh : List Sh) (t : TypeId) : Option (List (List Ct)) := match hlook hp id with
  | some (.row sh' t' l) => bif shEqL sh' sh && Nat.beq t' t then some l else none
  | _ => none
theorem rowAt_spec {hp : Hp} {id : Nat} {sh : List Sh} {t : TypeId} {l : List (List Ct)} (h : rowAt hp id sh t = some l) : hlook hp id = some (.row sh t l) := by
  unfold rowAt at h
  split at h
  · rename_i sh' t' l' ho
    cases hb : (shEqL sh' sh && Nat.beq t' t) with
    | false => rw [hb] at h; cases h
    | true =>
      rw [hb] at h
      cases h
      rw [Bool.and_eq_true] at hb
      rw [ho, shEqL_spec hb.1, Nat.eq_of_beq_eq_true hb.2]
  · cases h
end Go.Proofs.Ythgneojhhocflaa
