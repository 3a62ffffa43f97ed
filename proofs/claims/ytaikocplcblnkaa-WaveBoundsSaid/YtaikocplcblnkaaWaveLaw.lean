/- The laws of layer 3 that reckon with numbers alone: their walks. -/
import Derived.Test.YtaikocplcblnkaaWave
import Derived.OpenShut
set_option linter.unusedVariables false
namespace Go.Proofs.Ytaikocplcblnkaa
open Go.RowKit

theorem awake03_any (w : World) :
    Calls Try.prog 61 #[] w fun e w' => e = .returned (.bool true) ∧ w = w' := by
  obtain ⟨k1, k2, k3, k4, k5, k6⟩ := wave_awake
  go_enter Try.func61, Try.ntmps61
  go_wp2_with (first | (go_at_call 59; refine (sin_any _ _).mono ?_; rintro e w' ⟨rfl, rfl⟩) | (go_at_call 60; refine (cos_any _ _).mono ?_; rintro e w' ⟨rfl, rfl⟩) | (go_at_call 62; refine (ease_any _ _).mono ?_; rintro e w' ⟨rfl, rfl⟩))
  go_ret
  exact ⟨rfl, rfl⟩

theorem waveSins_any (x : Int) (w : World) :
    Calls Try.prog 11 #[.int .i64 x] w fun e w' => e = .returned (.bool true) ∧ w = w' := by
  go_enter Try.func11, Try.ntmps11
  go_wp2_with (first | (go_at_call 61; refine (awake03_any _).mono ?_; rintro e w' ⟨rfl, rfl⟩) | (go_at_call 59; refine (sin_any _ _).mono ?_; rintro e w' ⟨rfl, rfl⟩) | (go_at_call 65; refine (rsin_any _ _).mono ?_; rintro e w' ⟨rfl, rfl⟩) | (go_at_call 60; refine (cos_any _ _).mono ?_; rintro e w' ⟨rfl, rfl⟩) | (go_at_call 66; refine (rcos_any _ _).mono ?_; rintro e w' ⟨rfl, rfl⟩) | (go_at_call 67; refine (tan_any _ _).mono ?_; rintro e w' ⟨rfl, rfl⟩) | (go_at_call 68; refine (rdiv_any _ _ _).mono ?_; rintro e w' ⟨rfl, rfl⟩))
  go_ret
  exact ⟨rfl, rfl⟩

theorem waveEases_any (t : Int) (w : World) :
    Calls Try.prog 10 #[.int .i64 t] w fun e w' => e = .returned (.bool true) ∧ w = w' := by
  obtain ⟨k1, k2, k3, k4, k5, k6⟩ := wave_awake
  have hs := easeS_span t
  have hu := unS_id hs.1 hs.2
  go_enter Try.func10, Try.ntmps10
  go_wp2_with (first | (go_at_call 61; refine (awake03_any _).mono ?_; rintro e w' ⟨rfl, rfl⟩) | (go_at_call 62; refine (ease_any _ _).mono ?_; rintro e w' ⟨rfl, rfl⟩) | (go_at_call 63; refine (rease_any _ _).mono ?_; rintro e w' ⟨rfl, rfl⟩) | (go_at_call 64; refine (funit_any _ _).mono ?_; rintro e w' ⟨rfl, rfl⟩))
  go_ret
  exact ⟨rfl, rfl⟩

theorem waveBounds_any (x : Int) (w : World) (h0 : 0 ≤ x) (h1 : x ≤ 4294967295) :
    Calls Try.prog 9 #[.int .u32 x] w fun e w' => e = .returned (.bool true) ∧ w = w' := by
  have hs := sinS_span (x / 4)
  have hc := cosS_span (x / 4)
  have hh := sinS_half (x := x / 4) (by omega) (by omega)
  have h1 := sinS_turn (x := x / 4) 1 (by omega) (by omega) (by omega) (by omega)
  have h7 := sinS_turn (x := x / 4) (-7) (by omega) (by omega) (by omega) (by omega)
  have e1 : x / 4 + 1 * 65536 = x / 4 + 65536 := by omega
  have e7 : x / 4 + -7 * 65536 = x / 4 - 458752 := by omega
  rw [e1] at h1
  rw [e7] at h7
  clear e1 e7
  go_enter Try.func9, Try.ntmps9
  go_wp2_with (first | (go_at_call 61; refine (awake03_any _).mono ?_; rintro e w' ⟨rfl, rfl⟩) | (go_at_call 59; refine (sin_any _ _).mono ?_; rintro e w' ⟨rfl, rfl⟩) | (go_at_call 60; refine (cos_any _ _).mono ?_; rintro e w' ⟨rfl, rfl⟩))
  go_ret
  exact ⟨rfl, rfl⟩

theorem walk_WaveSins (a : Int) (w : World) (ha : (Lit.int .i64 a).wf = true) : Calls Try.prog 11 #[.int .i64 a] w fun e w' => e = .returned (.bool true) ∧ Below w.heap.size w w' :=
  (waveSins_any a w).mono fun e w' ⟨he, hw⟩ => ⟨he, hw ▸ Below.refl _ _⟩

theorem walk_WaveEases (a : Int) (w : World) (ha : (Lit.int .i64 a).wf = true) : Calls Try.prog 10 #[.int .i64 a] w fun e w' => e = .returned (.bool true) ∧ Below w.heap.size w w' :=
  (waveEases_any a w).mono fun e w' ⟨he, hw⟩ => ⟨he, hw ▸ Below.refl _ _⟩

theorem walk_WaveBounds (a : Int) (w : World) (ha : (Lit.int .u32 a).wf = true) : Calls Try.prog 9 #[.int .u32 a] w fun e w' => e = .returned (.bool true) ∧ Below w.heap.size w w' :=
  (waveBounds_any a w (bounds_u32 ha).1 (bounds_u32 ha).2).mono fun e w' ⟨he, hw⟩ => ⟨he, hw ▸ Below.refl _ _⟩

end Go.Proofs.Ytaikocplcblnkaa
