/- A call that answers no new name counts none. No condition. -/
import Derived.Test.YtmpaelkjooahoaaEngG
set_option linter.unusedVariables false
namespace Go.Proofs.Ytmpaelkjooahoaa
open Go.RowKit

/-- A call that lays a slice of one's own anew, and nothing else. -/
theorem CallOk.lower {P : Program} {f : FuncId} {args : List RV} {hp : Hp} {nx K i : Nat} {sh : List Sh} {t : TypeId} {l : List (List Ct)} {W : List Nat} (h : CallOk P f args hp nx ⟨.tup [], [(i, .row sh t l)], K, W⟩) (hi : i < nx) : CallOk P f args hp nx ⟨.tup [], [(i, .row sh t l)], nx, W⟩ := by
  intro e w hs
  refine (h e w hs).mono fun en w' ⟨e', hen, hp'⟩ => ?_
  have hk : ∀ id o, hlook [(i, HO.row sh t l)] id = some o → id = i ∧ o = .row sh t l := fun id o ho => by
    simp only [hlook] at ho
    cases hb : Nat.beq i id with
    | false => rw [hb] at ho; cases ho
    | true => rw [hb] at ho; cases ho; exact ⟨(Nat.eq_of_beq_eq_true hb).symm, rfl⟩
  let e2 : Env := ⟨fun id => if id < nx then e'.ρ id else e.ρ id, fun id => if id < nx then e'.σ id else e.σ id, fun id => if id < nx then e'.φ id else e.φ id⟩
  have s1 : ∀ id, id < nx → e'.same e2 id := fun id h => ⟨if_pos h, if_pos h, if_pos h⟩
  have s2 : ∀ id, ¬ id < nx → e.same e2 id := fun id h => ⟨if_neg h, if_neg h, if_neg h⟩
  have si := s1 i hi
  have hlk : hlook [(i, HO.row sh t l)] i = some (.row sh t l) := by simp only [hlook]; rw [Nat.beq_refl]; rfl
  refine ⟨e2, by rw [hen]; rfl, ⟨fun id hid => ?_, hp'.os, hp'.tape, hp'.output, hp'.size, hp'.fr, ⟨fun id o ho => ?_, fun id o ho id' o' ho' hne => ?_⟩, fun id o b ho hob => ?_, fun id o b ho hob => ?_⟩⟩
  · by_cases hlt : id < nx
    · exact (hp'.agree id (.inl hlt)).trans (s1 id hlt)
    · exact s2 id hlt
  · obtain ⟨rfl, rfl⟩ := hk id o ho
    exact HO.holds_next (hp'.sat.holds _ _ hlk) si (fun j hj => by simp [HO.ids] at hj) (fun _ _ => rfl) (Nat.le_refl _)
  · obtain ⟨rfl, rfl⟩ := hk id o ho
    obtain ⟨rfl, rfl⟩ := hk id' o' ho'
    exact absurd rfl hne
  · obtain ⟨rfl, rfl⟩ := hk id o ho
    refine hp'.own _ _ b hlk ?_
    simp only [HO.owns] at hob ⊢
    rwa [si.slv] at hob
  · obtain ⟨rfl, rfl⟩ := hk id o ho
    refine hp'.foot _ _ b hlk ?_
    simp only [HO.foot] at hob ⊢
    rwa [si.slv, si.2.2] at hob
end Go.Proofs.Ytmpaelkjooahoaa
