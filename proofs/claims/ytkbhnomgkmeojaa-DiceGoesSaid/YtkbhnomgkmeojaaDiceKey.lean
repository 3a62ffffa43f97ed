/- What a key draws in a dimension, by the program and by the reference, is one function of plain numbers. -/
import Derived.Test.YtkbhnomgkmeojaaDiceMix
set_option linter.unusedVariables false
namespace Go.Proofs.Ytkbhnomgkmeojaa
open Go.RowKit

def keyNums (s f p a d : Int) : List Int := [s, IntKind.u64.wrap f, IntKind.u64.wrap p, IntKind.u64.wrap a, IntKind.u64.wrap d]
def bitsS (s f p a d : Int) : Int := hashS 5 (at0 (keyNums s f p a d))
theorem u64_wf (x : Int) : (Lit.int .u64 (IntKind.u64.wrap x)).wf = true := by
  refine WalkArith.wf_u64 ?_
  rw [IntKind.wrap_u64]; omega
theorem keyNums_wf {s f p a d : Int} (hs : (Lit.int .u64 s).wf = true) : ∀ x ∈ keyNums s f p a d, (Lit.int .u64 x).wf = true := by
  intro x hx
  simp only [keyNums, List.mem_cons, List.not_mem_nil, or_false] at hx
  rcases hx with rfl | rfl | rfl | rfl | rfl
  · exact hs
  all_goals exact u64_wf _

theorem bits_any (s f p a d : Int) (w : World) (hs : (Lit.int .u64 s).wf = true) :
    Calls Try.prog 108 #[.agg #[.int .u64 s, .int .i64 f, .int .i64 p, .int .i64 a], .int .i64 d] w fun e w' => e = .returned (.int .u64 (bitsS s f p a d)) ∧ Below w.heap.size w w' := by
  go_enter Try.func108, Try.ntmps108
  go_wp2_with fail
  refine (hash_any _ 5 (at0 (keyNums s f p a d)) _ ?_).mono ?_
  · exact nums_new .u64 _ _ _ (keyNums s f p a d) _ _ (by simp) rfl rfl (keyNums_wf hs) (by omega)
  rintro e w' ⟨rfl, rfl⟩
  go_wp2
  go_ret
  exact ⟨rfl, by go_grown⟩

def unitS (s f p a d : Int) : Int := bitsS s f p a d / 281474976710656
def belowS (s f p a d n : Int) : Int := if n < 1 then 0 else wrap64 (bitsS s f p a d / 2 % n)
theorem mixS_bd (x : Int) : 0 ≤ mixS x ∧ mixS x ≤ 18446744073709551615 := by
  unfold mixS
  exact bounds_u64 (wf_bits _ _ _ _)
theorem unitS_bd (s f p a d : Int) : 0 ≤ bitsS s f p a d / 281474976710656 ∧ bitsS s f p a d / 281474976710656 ≤ 65535 := by
  have := mixS_bd (loopN (fun i h => hashStep h (at0 (keyNums s f p a d) i)) 5 5)
  have e : bitsS s f p a d = mixS (loopN (fun i h => hashStep h (at0 (keyNums s f p a d) i)) 5 5) := rfl
  rw [← e] at this
  generalize bitsS s f p a d = b at *
  omega

theorem bitsS_half (s f p a d : Int) : 0 ≤ bitsS s f p a d ∧ bitsS s f p a d / 2 ≤ 9223372036854775807 := by
  have := mixS_bd (loopN (fun i h => hashStep h (at0 (keyNums s f p a d) i)) 5 5)
  have e : bitsS s f p a d = mixS (loopN (fun i h => hashStep h (at0 (keyNums s f p a d) i)) 5 5) := rfl
  rw [← e] at this
  generalize bitsS s f p a d = b at *
  omega

theorem unit_any (s f p a d : Int) (w : World) (hs : (Lit.int .u64 s).wf = true) :
    Calls Try.prog 68 #[.agg #[.int .u64 s, .int .i64 f, .int .i64 p, .int .i64 a], .int .i64 d] w fun e w' => e = .returned (.int .i64 (unitS s f p a d)) ∧ Below w.heap.size w w' := by
  obtain ⟨q0, q1⟩ := unitS_bd s f p a d
  go_enter Try.func68, Try.ntmps68
  go_wp2_with (go_at_call 108; refine (bits_any _ _ _ _ _ _ hs).mono ?_; rintro e w' ⟨rfl, hb⟩)
  go_ret
  exact ⟨rfl, below_then hb (by go_grown)⟩

theorem to04_any (s f p a : Int) (w : World) :
    Calls Try.prog 64 #[.agg #[.int .u64 s, .int .i64 f, .int .i64 p, .int .i64 a]] w fun e w' => e = .returned (.agg #[.int .u64 s, .int .i64 f, .int .i64 p, .int .i64 a]) ∧ Below w.heap.size w w' := by
  go_enter Try.func64, Try.ntmps64
  go_wp2
  go_returns
  exact ⟨rfl, by go_grown⟩


/-! ### The dice -/
abbrev dieV (s f p a m : Int) : Array Value := #[.int .u64 s, .int .i64 f, .int .i64 p, .int .i64 a, .int .i64 m]
/-- The dice of a key at an address, so many drawn. -/
def DieAt (w : World) (b : Nat) (s f p a m : Int) : Prop := ∃ T, w.heap[b]? = some (.cells #[.int .u64 s, .int .i64 f, .int .i64 p, .int .i64 a, .int .i64 m] T (0, 0))

theorem new04_any (s f p a : Int) (w : World) :
    Calls Try.prog 63 #[.agg #[.int .u64 s, .int .i64 f, .int .i64 p, .int .i64 a]] w fun e w' => e = .returned (.pointer (some ⟨w.heap.size + 1, 0, none⟩)) ∧ (w.alloc (.cells #[.int .u64 s, .int .i64 f, .int .i64 p, .int .i64 a] 118)).alloc (.cells #[.int .u64 s, .int .i64 f, .int .i64 p, .int .i64 a, .int .i64 0] 125) = w' := by
  go_enter Try.func63, Try.ntmps63
  go_wp2
  go_ret
  exact ⟨rfl, rfl⟩
theorem drawn_nil (w : World) : Calls Try.prog 66 #[.pointer none] w fun e w' => e = .returned (.int .i64 0) ∧ w = w' := by
  go_enter Try.func66, Try.ntmps66
  go_wp2
  go_ret
  exact ⟨rfl, rfl⟩
theorem next_nil (w : World) : Calls Try.prog 67 #[.pointer none] w fun e w' => e = .returned (.int .i64 0) ∧ w = w' := by
  go_enter Try.func67, Try.ntmps67
  go_wp2
  go_ret
  exact ⟨rfl, rfl⟩
theorem skip_nil (d : Int) (w : World) : Calls Try.prog 65 #[.pointer none, .int .i64 d] w fun e w' => e = .returned (.int .i64 2) ∧ w = w' := by
  go_enter Try.func65, Try.ntmps65
  go_wp2
  go_ret
  exact ⟨rfl, rfl⟩
theorem drawn_any (b : Nat) (s f p a m : Int) (w : World) (hd : DieAt w b s f p a m) : Calls Try.prog 66 #[.pointer (some ⟨b, 0, none⟩)] w fun e w' => e = .returned (.int .i64 m) ∧ w = w' := by
  obtain ⟨T, hd⟩ := hd
  have hm : w.cell? ⟨b, 4, none⟩ = some (.int .i64 m) := by simp [World.cell?, hd]
  clear hd
  go_enter Try.func66, Try.ntmps66
  go_wp2
  go_ret
  exact ⟨rfl, rfl⟩
theorem skip_no (b : Nat) (s f p a m d : Int) (w : World) (hd : DieAt w b s f p a m) (hlt : d < m) : Calls Try.prog 65 #[.pointer (some ⟨b, 0, none⟩), .int .i64 d] w fun e w' => e = .returned (.int .i64 1) ∧ w = w' := by
  obtain ⟨T, hd⟩ := hd
  have hm : w.cell? ⟨b, 4, none⟩ = some (.int .i64 m) := by simp [World.cell?, hd]
  clear hd
  go_enter Try.func65, Try.ntmps65
  go_wp2
  go_ret
  exact ⟨rfl, rfl⟩
theorem skip_yes (b : Nat) (s f p a m d : Int) (w : World) (hd : DieAt w b s f p a m) (hlt : m ≤ d) : Calls Try.prog 65 #[.pointer (some ⟨b, 0, none⟩), .int .i64 d] w fun e w' => e = .returned (.int .i64 0) ∧ w.setCell ⟨b, 4, none⟩ (.int .i64 d) = w' := by
  obtain ⟨T, hd⟩ := hd
  have hm : w.cell? ⟨b, 4, none⟩ = some (.int .i64 m) := by simp [World.cell?, hd]
  have hf : w.frozen? ⟨b, 4, none⟩ = false := by simp [World.frozen?, hd]
  clear hd
  go_enter Try.func65, Try.ntmps65
  go_wp2
  go_ret
  exact ⟨rfl, rfl⟩
theorem next_any (b : Nat) (s f p a m : Int) (w : World) (hd : DieAt w b s f p a m) (hs : (Lit.int .u64 s).wf = true) (h0 : 0 ≤ m) (h1 : m ≤ 9223372036854775806) :
    Calls Try.prog 67 #[.pointer (some ⟨b, 0, none⟩)] w fun e w' => e = .returned (.int .i64 (unitS s f p a m)) ∧ Below w.heap.size (w.setCell ⟨b, 4, none⟩ (.int .i64 (m + 1))) w' := by
  obtain ⟨T, hd⟩ := hd
  have hm : w.cell? ⟨b, 4, none⟩ = some (.int .i64 m) := by simp [World.cell?, hd]
  have hf : w.frozen? ⟨b, 4, none⟩ = false := by simp [World.frozen?, hd]
  have k0 : w.cell? ⟨b, 0, none⟩ = some (.int .u64 s) := by simp [World.cell?, hd]
  have k1 : w.cell? ⟨b, 1, none⟩ = some (.int .i64 f) := by simp [World.cell?, hd]
  have k2 : w.cell? ⟨b, 2, none⟩ = some (.int .i64 p) := by simp [World.cell?, hd]
  have k3 : w.cell? ⟨b, 3, none⟩ = some (.int .i64 a) := by simp [World.cell?, hd]
  clear hd
  go_enter Try.func67, Try.ntmps67
  go_wp2
  have c0 := Cls.cell (w := w.setCell ⟨b, 4, none⟩ (.int .i64 (m + 1))) (a := ⟨b, 0, none⟩) (v := .int .u64 s) (by rw [World.cell?_setCell_other _ _ _ _ (by simp)]; exact k0)
  have c1 := Cls.cell (w := w.setCell ⟨b, 4, none⟩ (.int .i64 (m + 1))) (a := ⟨b, 1, none⟩) (v := .int .i64 f) (by rw [World.cell?_setCell_other _ _ _ _ (by simp)]; exact k1)
  have c2 := Cls.cell (w := w.setCell ⟨b, 4, none⟩ (.int .i64 (m + 1))) (a := ⟨b, 2, none⟩) (v := .int .i64 p) (by rw [World.cell?_setCell_other _ _ _ _ (by simp)]; exact k2)
  have c3 := Cls.cell (w := w.setCell ⟨b, 4, none⟩ (.int .i64 (m + 1))) (a := ⟨b, 3, none⟩) (v := .int .i64 a) (by rw [World.cell?_setCell_other _ _ _ _ (by simp)]; exact k3)
  have c4 := Cls.cell (w := w.setCell ⟨b, 4, none⟩ (.int .i64 (m + 1))) (a := ⟨b, 4, none⟩) (v := .int .i64 (m + 1)) (World.cell?_setCell_same _ _ _ hm)
  refine wp_region_cls (by kernel_rfl) (by kernel_rfl) ?_
  repeat (go_big_quiet_step ((go_at_call 68; exact Cls.calls (unit_any _ _ _ _ _ _ hs))))
  refine wpQuiet_nil ?_
  rintro ⟨w2, hw2⟩
  go_wp2
  go_ret
  exact ⟨rfl, by simpa using hw2⟩
end Go.Proofs.Ytkbhnomgkmeojaa
