/- The mixing and the hash of numbers, by the program and by the reference, are one function of plain numbers. No condition. -/
import Derived.Test.YtmpaelkjooahoaaProg
import Derived.Test.YtmpaelkjooahoaaBase
set_option linter.unusedVariables false
namespace Go.Proofs.Ytmpaelkjooahoaa
open Go.RowKit

/-- The mixing, in the model's own operations. -/
def mixS (x : Int) : Int :=
  let a := IntKind.u64.wrap (bits .xor .u64 x (x / 1073741824) * 13787848793156543929)
  let b := IntKind.u64.wrap (bits .xor .u64 a (a / 134217728) * 10723151780598845931)
  bits .xor .u64 b (b / 2147483648)

theorem mix_any (x : Int) (w : World) : Calls Try.prog 107 #[.int .u64 x] w fun e w' => e = .returned (.int .u64 (mixS x)) ∧ w = w' := by
  go_enter Try.func107, Try.ntmps107
  go_wp2
  go_ret
  exact ⟨rfl, rfl⟩

theorem stir_any (x : Int) (w : World) : Calls Try.prog 108 #[.int .u64 x] w fun e w' => e = .returned (.int .u64 (mixS x)) ∧ w = w' := by
  go_enter Try.func108, Try.ntmps108
  go_wp2
  go_ret
  exact ⟨rfl, rfl⟩
def hashStep (h x : Int) : Int := mixS (IntKind.u64.wrap (IntKind.u64.wrap (h + 11400714819323198485) + IntKind.u64.wrap (x * 11400714819323198485)))
def hashS (n : Nat) (z : Nat → Int) : Int := mixS (loopN (fun i h => hashStep h (z i)) (n : Int) n)

theorem hashStep_ref (h x : Int) : mixS (IntKind.u64.wrap (h + IntKind.u64.wrap (11400714819323198485 * IntKind.u64.wrap (x + 1)))) = hashStep h x := by
  unfold hashStep
  congr 1
  simp only [IntKind.wrap_u64]
  omega

theorem hash_any (v : Value) (n : Nat) (z : Nat → Int) (w : World) (hv : Nums .u64 w v n z) :
    Calls Try.prog 99 #[v] w fun e w' => e = .returned (.int .u64 (hashS n z)) ∧ w = w' := by
  obtain ⟨a, cap, rfl, hlen, _, _, _, hc0⟩ := hv
  have HC := Lib.hid hc0
  clear hc0
  go_enter Try.func99, Try.ntmps99
  go_wp2
  go_loop [3, 11] (fun h i => ∃ k : Nat, k ≤ n ∧ i = .int .i64 k ∧ h = .int .u64 (loopN (fun i h => hashStep h (z i)) (n : Int) k)) (fun _ i => n - (intOf i).toNat)
  case atStart => exact ⟨0, Nat.zero_le _, rfl, rfl⟩
  case round =>
    obtain ⟨k, hk, rfl, rfl⟩ := hrel
    by_cases hlt : k < n
    · obtain ⟨b, off, rfl, hcell, _⟩ := HC.out k hlt
      go_wp2_with (go_at_call 107; refine (mix_any _ _).mono ?_; rintro e w' ⟨rfl, rfl⟩)
      go_round
      case rel => exact ⟨k + 1, by omega, by go_num, rfl⟩
      case measure => simp [intOf]; omega
    · obtain rfl : k = n := by omega
      go_wp2_with (go_at_call 107; refine (mix_any _ _).mono ?_; rintro e w' ⟨rfl, rfl⟩)
      go_ret
      exact ⟨rfl, rfl⟩

theorem refhash_any (v : Value) (n : Nat) (z : Nat → Int) (w : World) (hv : Nums .u64 w v n z) :
    Calls Try.prog 100 #[v] w fun e w' => e = .returned (.int .u64 (hashS n z)) ∧ w = w' := by
  obtain ⟨a, cap, rfl, hlen, _, _, _, hc0⟩ := hv
  have HC := Lib.hid hc0
  clear hc0
  go_enter Try.func100, Try.ntmps100
  go_wp2
  go_loop [3, 4] (fun h i => ∃ k : Nat, k ≤ n ∧ i = .int .i64 k ∧ h = .int .u64 (loopN (fun i h => hashStep h (z i)) (n : Int) k)) (fun _ i => n - (intOf i).toNat)
  case atStart => exact ⟨0, Nat.zero_le _, rfl, rfl⟩
  case round =>
    obtain ⟨k, hk, rfl, rfl⟩ := hrel
    by_cases hlt : k < n
    · obtain ⟨b, off, rfl, hcell, _⟩ := HC.out k hlt
      go_wp2_with (go_at_call 108; refine (stir_any _ _).mono ?_; rintro e w' ⟨rfl, rfl⟩)
      go_round
      case rel => exact ⟨k + 1, by omega, by go_num, by rw [hashStep_ref]; rfl⟩
      case measure => simp [intOf]; omega
    · obtain rfl : k = n := by omega
      go_wp2_with (go_at_call 108; refine (stir_any _ _).mono ?_; rintro e w' ⟨rfl, rfl⟩)
      go_ret
      exact ⟨rfl, rfl⟩
end Go.Proofs.Ytmpaelkjooahoaa
