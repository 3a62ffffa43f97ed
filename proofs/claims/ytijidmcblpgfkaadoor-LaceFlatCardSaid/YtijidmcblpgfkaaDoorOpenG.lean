/- A law whose functions read a package variable: its arguments opened, the variable's numbers beside them. No condition. -/
import Derived.Test.YtijidmcblpgfkaaDoorOpenB
set_option linter.unusedVariables false
set_option linter.unusedSimpArgs false
namespace Go.Proofs.YtijidmcblpgfkaaDoor
open Go.RowKit

theorem law_goG {P : Program} {f : FuncId} {sh : List Sh} {vs args : List Value} {ct : Nat → Ct} {w : World} {nx : Nat} {out : Out} {V : Value} (ks : List (Option Nat)) (K : CellsOk w sh vs ct) (hv : mkVals ks vs = args) {g : Nat} {k : IntKind} {zs : List Int} (hz : ∀ i, i < zs.length → w.cell? ⟨g, i, none⟩ = some (.int k (zs.getD i 0))) (h0 : 0 < zs.length) (hm : zs.length ≤ 65536)
    (h : CallOk P f (mkArgs ks (argCV sh ct 0 2)) ((0, .grid [.int k] (numRows zs)) :: (1, .tie true 0 g) :: argHp sh ct 0 2) nx out) (hV : ∀ e, out.v.den e = V) (hW : out.W = []) : Calls P f args.toArray w fun en w' => en = .returned V ∧ Below w.heap.size w w' := by
  obtain ⟨e, hsame, _, h3, h4⟩ := arg_ok sh ct vs 0 2 (env0.setS 0 (some ⟨g, 0, none⟩, zs.length, zs.length) (Lt w)) K.len (fun i s hs => by
    obtain ⟨u, h1, h2, _⟩ := K.at' i s hs
    exact ⟨u, h1, by rw [Nat.zero_add]; exact h2⟩)
  have hs0 := hsame 0 (.inl (by omega))
  have hgl : g < w.heap.size := by
    have := hz 0 h0
    unfold World.cell? at this
    cases hh : w.heap[g]? with
    | none => simp [hh] at this
    | some o => exact heap_some_lt hh
  have hσ : e.σ 0 = (some ⟨g, 0, none⟩, zs.length, zs.length) := by rw [hs0.2.1, Env.setS_σ]
  have hφ : e.φ 0 = Lt w := by rw [hs0.2.2, Env.setS_φ]
  have hrl : (numRows zs).length = zs.length := by simp [numRows]
  have grid0 : (HO.grid [.int k] (numRows zs)).holds e w 0 := by
    refine ⟨⟨0, some ⟨g, 0, none⟩, zs.length, ?_, by rw [hrl]; exact Nat.le_refl _, by omega, (fun hh => by cases hh), fun i hi => ⟨g, 0, rfl, by rw [hφ]; exact hgl, fun j s hs => ?_⟩⟩, fun b hb => by rw [hφ] at hb; exact hb⟩
    · rw [Env.slv, hσ, hrl]
    · cases j with
      | zero =>
        cases hs
        rw [hrl] at hi
        refine ⟨.int k (zs.getD i 0), ?_, ?_⟩
        · have := hz i hi
          simpa using this
        · rw [numRows_rd hi]; rfl
      | succ j => simp at hs
  have look : ∀ id o, hlook ((0, HO.grid [.int k] (numRows zs)) :: (1, .tie true 0 g) :: argHp sh ct 0 2) id = some o → (id = 0 ∧ o = .grid [.int k] (numRows zs)) ∨ (id = 1 ∧ o = .tie true 0 g) ∨ hlook (argHp sh ct 0 2) id = some o := by
    intro id o ho
    simp only [hlook] at ho
    cases hb : Nat.beq 0 id with
    | true => rw [hb] at ho; cases ho; exact .inl ⟨(Nat.eq_of_beq_eq_true hb).symm, rfl⟩
    | false =>
      rw [hb] at ho
      simp only [cond_false] at ho
      cases hb1 : Nat.beq 1 id with
      | true => rw [hb1] at ho; cases ho; exact .inr (.inl ⟨(Nat.eq_of_beq_eq_true hb1).symm, rfl⟩)
      | false => rw [hb1] at ho; exact .inr (.inr ho)
  refine law_call (e := e) h ⟨fun id o ho => ?_, fun id o ho id' o' ho' hne b hb => ?_⟩ ?_ hV hW
  · rcases look id o ho with ⟨rfl, rfl⟩ | ⟨rfl, rfl⟩ | ho
    · exact grid0
    · exact ⟨fun _ => by rw [hσ], fun hh => by cases hh⟩
    · exact (h4 id o ho).2.2.1
  · rcases look id o ho with ⟨rfl, rfl⟩ | ⟨rfl, rfl⟩ | ho
    · exact False.elim hb
    · exact False.elim hb
    · exact absurd hb ((h4 id o ho).2.2.2 b)
  · rw [mkArgs_den, h3, hv]
end Go.Proofs.YtijidmcblpgfkaaDoor
