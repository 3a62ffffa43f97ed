/- Two arrays of three numbers are equal where their numbers are: what Go's == answers. No condition. -/
import Derived.Test.YtonlllijdbjkaaaBase
import Derived.Laws.StructEq
import Derived.ChangeKeysEq
set_option linter.unusedVariables false
namespace Go.Proofs.Ytonlllijdbjkaaa
open Go.RowKit

section
variable {P : Program}
theorem run_equalIn_arr3 {T e : TypeId} {k : IntKind} (hT : P.underlying T = some (.array 3 e)) (he : P.underlying e = some (.int k)) (hi0 : (P.info? e).isSome = true) (hs : P.cellsOf e = 1) (d : Nat) (a b c a' b' c' : Int) (w : World) :
    (Op.equalIn (d + 2) T (.agg #[.int k a, .int k b, .int k c]) (.agg #[.int k a', .int k b', .int k c'])).run P w = .ok (a == a' && (b == b' && c == c')) w := by
  obtain ⟨i, hi⟩ := Option.isSome_iff_exists.1 hi0
  have h1 := fun w => run_sizeOf (P := P) (w := w) hi
  have h2 : ∀ w, (isAgg e).run P w = .ok false w := fun w => by simp [isAgg, run_underlying he]
  have h3 : ∀ (x y : Int) w, (Op.equalIn (d + 1) e (.int k x) (.int k y)).run P w = .ok (x == y) w := fun x y w => run_equalIn_int w d e k k x y he
  unfold Op.equalIn
  simp [run_underlying hT, h1, hs, go_sem, List.range', h2, List.forIn_cons]
  simp only [h3, Result.andThen_ok]
  cases ha : (a == a')
  · simp
  · cases hb : (b == b') <;> cases hc : (c == c') <;> simp
theorem run_eql_arr3 {T e : TypeId} {k : IntKind} (hT : P.underlying T = some (.array 3 e)) (he : P.underlying e = some (.int k)) (hi0 : (P.info? e).isSome = true) (hs : P.cellsOf e = 1) (a b c a' b' c' : Int) (w : World) :
    (binOp .eql T (.agg #[.int k a, .int k b, .int k c]) (.agg #[.int k a', .int k b', .int k c'])).run P w = .ok (.bool (a == a' && (b == b' && c == c'))) w := by
  rw [run_eql_struct, run_equalIn_arr3 hT he hi0 hs]
  rfl
end
end Go.Proofs.Ytonlllijdbjkaaa
