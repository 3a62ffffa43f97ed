/- What a key draws in a dimension, by the program and by the reference, is one function of plain numbers. -/
import Derived.Test.YtmpaelkjooahoaaDiceMix
set_option linter.unusedVariables false
namespace Go.Proofs.Ytmpaelkjooahoaa
open Go.RowKit

def keyNums (s f p a d : Int) : List Int := [s, IntKind.u64.wrap f, IntKind.u64.wrap p, IntKind.u64.wrap a, IntKind.u64.wrap d]
def bitsS (s f p a d : Int) : Int := hashS 5 (at0 (keyNums s f p a d))
theorem u64_wf (x : Int) : (Lit.int .u64 (IntKind.u64.wrap x)).wf = true := by
  refine WalkArith.wf_u64 ?_
  rw [IntKind.wrap_u64]; omega
theorem keyNums_wf {s f p a d : Int} (hs : (Lit.int .u64 s).wf = true) : ∀ x ∈ keyNums s f p a d, (Lit.int .u64 x).wf = true := by
  intro x hx
  simp only [keyNums, List.mem_cons, List.not_mem_nil, or_false] at hx
  rcases hx with rfl | rfl | rfl | rfl | rfl
  · exact hs
  all_goals exact u64_wf _

theorem bits_any (s f p a d : Int) (w : World) (hs : (Lit.int .u64 s).wf = true) :
    Calls Try.prog 86 #[.agg #[.int .u64 s, .int .i64 f, .int .i64 p, .int .i64 a], .int .i64 d] w fun e w' => e = .returned (.int .u64 (bitsS s f p a d)) ∧ Below w.heap.size w w' := by
  go_enter Try.func86, Try.ntmps86
  go_wp2_with fail
  refine (hash_any _ 5 (at0 (keyNums s f p a d)) _ ?_).mono ?_
  · exact nums_new .u64 _ _ _ (keyNums s f p a d) _ _ (by simp) rfl rfl (keyNums_wf hs) (by omega)
  rintro e w' ⟨rfl, rfl⟩
  go_wp2
  go_ret
  exact ⟨rfl, by go_grown⟩

theorem refbits_any (s f p a d : Int) (w : World) (hs : (Lit.int .u64 s).wf = true) :
    Calls Try.prog 87 #[.agg #[.int .u64 s, .int .i64 f, .int .i64 p, .int .i64 a], .int .i64 d] w fun e w' => e = .returned (.int .u64 (bitsS s f p a d)) ∧ Below w.heap.size w w' := by
  go_enter Try.func87, Try.ntmps87
  go_wp2_with fail
  refine (refhash_any _ 5 (at0 (keyNums s f p a d)) _ ?_).mono ?_
  · exact nums_new .u64 _ _ _ (keyNums s f p a d) _ _ (by simp) rfl rfl (keyNums_wf hs) (by omega)
  rintro e w' ⟨rfl, rfl⟩
  go_wp2
  go_ret
  exact ⟨rfl, by go_grown⟩
def unitS (s f p a d : Int) : Int := bitsS s f p a d / 281474976710656
def belowS (s f p a d n : Int) : Int := if n < 1 then 0 else wrap64 (bitsS s f p a d / 2 % n)
theorem mixS_bd (x : Int) : 0 ≤ mixS x ∧ mixS x ≤ 18446744073709551615 := by
  unfold mixS
  exact bounds_u64 (wf_bits _ _ _ _)
theorem unitS_bd (s f p a d : Int) : 0 ≤ bitsS s f p a d / 281474976710656 ∧ bitsS s f p a d / 281474976710656 ≤ 65535 := by
  have := mixS_bd (loopN (fun i h => hashStep h (at0 (keyNums s f p a d) i)) 5 5)
  have e : bitsS s f p a d = mixS (loopN (fun i h => hashStep h (at0 (keyNums s f p a d) i)) 5 5) := rfl
  rw [← e] at this
  generalize bitsS s f p a d = b at *
  omega

theorem bitsS_half (s f p a d : Int) : 0 ≤ bitsS s f p a d ∧ bitsS s f p a d / 2 ≤ 9223372036854775807 := by
  have := mixS_bd (loopN (fun i h => hashStep h (at0 (keyNums s f p a d) i)) 5 5)
  have e : bitsS s f p a d = mixS (loopN (fun i h => hashStep h (at0 (keyNums s f p a d) i)) 5 5) := rfl
  rw [← e] at this
  generalize bitsS s f p a d = b at *
  omega

theorem unit_any (s f p a d : Int) (w : World) (hs : (Lit.int .u64 s).wf = true) :
    Calls Try.prog 60 #[.agg #[.int .u64 s, .int .i64 f, .int .i64 p, .int .i64 a], .int .i64 d] w fun e w' => e = .returned (.int .i64 (unitS s f p a d)) ∧ Below w.heap.size w w' := by
  obtain ⟨q0, q1⟩ := unitS_bd s f p a d
  go_enter Try.func60, Try.ntmps60
  go_wp2_with (go_at_call 86; refine (bits_any _ _ _ _ _ _ hs).mono ?_; rintro e w' ⟨rfl, hb⟩)
  go_ret
  exact ⟨rfl, below_then hb (by go_grown)⟩

theorem refunit_any (s f p a d : Int) (w : World) (hs : (Lit.int .u64 s).wf = true) :
    Calls Try.prog 63 #[.agg #[.int .u64 s, .int .i64 f, .int .i64 p, .int .i64 a], .int .i64 d] w fun e w' => e = .returned (.int .i64 (unitS s f p a d)) ∧ Below w.heap.size w w' := by
  obtain ⟨q0, q1⟩ := unitS_bd s f p a d
  go_enter Try.func63, Try.ntmps63
  go_wp2_with (go_at_call 87; refine (refbits_any _ _ _ _ _ _ hs).mono ?_; rintro e w' ⟨rfl, hb⟩)
  go_ret
  exact ⟨rfl, below_then hb (by go_grown)⟩
/-- The dice of a key at an address, so many drawn. -/
def DieAt (w : World) (b : Nat) (s f p a m : Int) : Prop := ∃ T, w.heap[b]? = some (.cells #[.int .u64 s, .int .i64 f, .int .i64 p, .int .i64 a, .int .i64 m] T (0, 0))

end Go.Proofs.Ytmpaelkjooahoaa
