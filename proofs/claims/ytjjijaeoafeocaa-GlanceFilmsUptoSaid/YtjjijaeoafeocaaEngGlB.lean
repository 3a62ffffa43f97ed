/- strings.Builder's look at itself, for the symbolic way. No condition. -/
import Derived.Test.YtjjijaeoafeocaaEngGl
set_option linter.unusedVariables false
namespace Go.Proofs.Ytjjijaeoafeocaa
open Go.RowKit

theorem copy_fresh (b : Nat) (w : World) (h0 : w.cell? ⟨b, 0, none⟩ = some (.pointer none)) (hsh : w.shape? b = some (75, 2)) (hfz : w.frozen? ⟨b, 0, none⟩ = false) :
    Calls Try.prog 46 #[.pointer (some ⟨b, 0, none⟩)] w fun e w' => e = .returned (.tuple #[]) ∧ w' = w.setCell ⟨b, 0, none⟩ (.pointer (some ⟨b, 0, none⟩)) :=
  Any.Builder_copyCheck_fresh { Try.lays105 with } Try.Builder_Extra_105.toX72 b w h0 hsh hfz
theorem copy_used (b : Nat) (w : World) (h0 : w.cell? ⟨b, 0, none⟩ = some (.pointer (some ⟨b, 0, none⟩))) :
    Calls Try.prog 46 #[.pointer (some ⟨b, 0, none⟩)] w fun e w' => e = .returned (.tuple #[]) ∧ w' = w :=
  Any.Builder_copyCheck_used { Try.lays105 with } Try.Builder_Extra_105.toX72 b w h0
/-- What copyCheck does to a builder of one's own: nothing yet, or in use. -/
def copyG (args : List RV) (hp : Hp) (nx : Nat) : Option (Option Bool × Out) :=
  match args with
  | [.sv (.one (.ptr id 0))] => (match hlook hp id with
    | some (.cells [.val _ (.pointer none), c1] t) => bif Nat.beq t 75 then some (none, ⟨.tup [], [(id, .cells [.ptr id 0, c1] t)], nx, [id]⟩) else none
    | some (.cells [.ptr id' 0, c1] t) => bif Nat.beq id' id then some (none, ⟨.tup [], [], nx, []⟩) else none
    | _ => none)
  | _ => none
theorem copyG_ok (args : List RV) (hp : Hp) (nx : Nat) (p : Option Bool) (out : Out) (hn : Names args hp nx) (h : copyG args hp nx = some (p, out)) : CallOk Try.prog 46 args hp nx out := by
  unfold copyG at h
  split at h
  · rename_i id
    split at h
    · rename_i k c1 t hl
      cases hb : Nat.beq t 75 with
      | false => rw [hb] at h; cases h
      | true =>
        rw [hb] at h
        cases h
        obtain rfl := Nat.eq_of_beq_eq_true hb
        intro e w hs
        have hc := hs.holds _ _ hl
        have hc' : w.heap[e.ρ id]? = some (.cells #[.pointer none, c1.den e] 75 (0, 0)) := hc
        refine (copy_fresh (e.ρ id) w (by rw [Lib.cell_of_heap hc']; rfl) (by simp [World.shape?, hc']) (Lib.frozen_of_heap hc' 0)).mono fun en w' ⟨hen, hw⟩ => ?_
        subst hw
        refine ⟨e, hen, fun _ _ => .refl _ _, rfl, rfl, rfl, by simp, fun k hk hne => heap_setCell_other _ _ _ _ (fun h' => hne id (by simp) _ hl h'), ⟨fun id' o' h' => ?_, fun id' o' h' id2 o2 h2 hne b hb => ?_⟩, fun id' o' b h' hf => ?_, fun id' o' b h' hf => ?_⟩
        · obtain ⟨rfl, rfl⟩ := hlook_one h'
          have := heap_setCell_same w (e.ρ id') 0 #[.pointer none, c1.den e] 75 (.pointer (some ⟨e.ρ id', 0, none⟩)) hc'
          simpa [HO.holds, CV.den] using this
        · exact absurd ((hlook_one h').1.trans (hlook_one h2).1.symm) hne
        · obtain ⟨rfl, rfl⟩ := hlook_one h'
          exact .inr ⟨_, by simp, _, hl, hf⟩
        · obtain ⟨rfl, rfl⟩ := hlook_one h'
          exact .inr (.inl ⟨_, by simp, _, hl, hf⟩)
    · rename_i id' c1 t hl
      cases hb : Nat.beq id' id with
      | false => rw [hb] at h; cases h
      | true =>
        rw [hb] at h
        cases h
        obtain rfl := Nat.eq_of_beq_eq_true hb
        intro e w hs
        have hc := hs.holds _ _ hl
        have hc' : w.heap[e.ρ id']? = some (.cells #[.pointer (some ⟨e.ρ id', 0, none⟩), c1.den e] t (0, 0)) := hc
        refine (copy_used (e.ρ id') w (by rw [Lib.cell_of_heap hc']; rfl)).mono fun en w' ⟨hen, hw⟩ => ?_
        subst hw
        exact ⟨e, hen, fun _ _ => .refl _ _, rfl, rfl, rfl, Nat.le_refl _, fun k hk hne => rfl, ⟨fun _ _ h' => by simp [hlook] at h', fun _ _ h' => by simp [hlook] at h'⟩, fun _ _ _ h' => by simp [hlook] at h', fun _ _ _ h' => by simp [hlook] at h'⟩
    · cases h
  · cases h
def copy_con : Con Try.prog := ⟨46, copyG, fun args hp nx p out hn h _ => copyG_ok args hp nx p out hn h⟩
def consGlB : List (Con Try.prog) := [copy_con]
end Go.Proofs.Ytjjijaeoafeocaa
