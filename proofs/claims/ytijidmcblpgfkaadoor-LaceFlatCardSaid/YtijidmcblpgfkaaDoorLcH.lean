/- The example of layer 20 holds. No condition. -/
import Derived.Test.YtijidmcblpgfkaaDoorEngLcD
set_option linter.unusedVariables false
set_option linter.unusedSimpArgs false
namespace Go.Proofs.YtijidmcblpgfkaaDoor
open Go.RowKit

def oneL : List (List Ct) := [[.i 65536, .i 65536, .i 65536]]
def oneD : List (List Ct) := [[.i 0]]
def oneV : List (List Ct) := [[.i 0, .i 0, .i 0]]
def oneM : List (List Ct) := [[.i (-1)]]
theorem one_film : filmS 1 1 oneL oneD oneV oneV oneM oneM = true := by
  refine filmS_true ⟨by decide, by decide, by decide, by decide, rfl, rfl, rfl, rfl, rfl, rfl, fun k hk => ?_⟩
  obtain rfl : k = 0 := by simp [oneM] at hk; exact hk
  decide
theorem one_pix : ∀ n : Int, levP n = true → pixS 1 1 n oneD oneV oneM oneL 0 0 = (65536, 65536, 65536) := by
  intro n hn
  rcases lev_cases hn with rfl | rfl | rfl | rfl | rfl <;> decide +kernel
theorem one_lev {n : Int} (hn : levP n = true) : levS 1 1 oneL oneD oneV oneV oneM oneM 1 1 oneL n = (1, 1, 0, oneL) := by
  have hb : levB 1 1 oneL oneD oneV oneV oneM oneM 1 1 oneL n = true := by
    unfold levB
    rw [one_film, hn]; rfl
  have hr : pixR 1 1 n oneD oneV oneM oneL (((0 : Nat) : Int) % 1) (((0 : Nat) : Int) / 1) = [.i 65536, .i 65536, .i 65536] := by
    unfold pixR
    rw [show (((0 : Nat) : Int) % 1) = 0 from rfl, show (((0 : Nat) : Int) / 1) = 0 from rfl, one_pix n hn]
  have ht : levT 1 1 n oneD oneV oneM oneL = oneL := by
    unfold levT tab
    show [pixR 1 1 n oneD oneV oneM oneL (((0 : Nat) : Int) % 1) (((0 : Nat) : Int) / 1)] = oneL
    rw [hr]; rfl
  unfold levS
  rw [hb, ht]; rfl
theorem awk_some {g : List (List Ct)} (hg : gtB g = true) : awk_res g = some true := by
  have h0 : awk_c2149214 g = (1, 1, 0, oneL) := one_lev (n := 0) rfl
  have h1 : awk_c92460280 g = (1, 1, 0, oneL) := by
    show levS 1 1 oneL oneD oneV oneV oneM oneM (awk_c2149214 g).1 (awk_c2149214 g).2.1 (awk_c2149214 g).2.2.2 1 = _
    rw [h0]; exact one_lev rfl
  have h2 : awk_c34603219 g = (1, 1, 0, oneL) := by
    show levS 1 1 oneL oneD oneV oneV oneM oneM (awk_c92460280 g).1 (awk_c92460280 g).2.1 (awk_c92460280 g).2.2.2 2 = _
    rw [h1]; exact one_lev rfl
  have h3 : awk_c33526230 g = (1, 1, 0, oneL) := by
    show levS 1 1 oneL oneD oneV oneV oneM oneM (awk_c34603219 g).1 (awk_c34603219 g).2.1 (awk_c34603219 g).2.2.2 3 = _
    rw [h2]; exact one_lev rfl
  have h4 : awk_c32037934 g = (1, 1, 0, oneL) := by
    show levS 1 1 oneL oneD oneV oneV oneM oneM (awk_c33526230 g).1 (awk_c33526230 g).2.1 (awk_c33526230 g).2.2.2 4 = _
    rw [h3]; exact one_lev rfl
  have hc : awk_c51140326 = (65536, 65536, 65536) := by decide +kernel
  unfold awk_res
  rw [hg, h0, h1, h2, h3, h4, hc]
  decide
end Go.Proofs.YtijidmcblpgfkaaDoor
