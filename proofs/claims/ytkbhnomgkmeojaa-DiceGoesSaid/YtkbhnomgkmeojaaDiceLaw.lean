/- What any key draws in any dimension is the document's: the law's walk. -/
import Derived.Test.YtkbhnomgkmeojaaDiceKey
set_option linter.unusedVariables false
namespace Go.Proofs.Ytkbhnomgkmeojaa
open Go.RowKit

theorem hash_zero (z : Nat → Int) : hashS 0 z = 0 := by
  have e : hashS 0 z = mixS 0 := rfl
  rw [e]
  decide +kernel
theorem nums_nil (k : IntKind) (w : World) (z : Nat → Int) : Nums k w (.slice none 0 0) 0 z := ⟨none, 0, rfl, by omega, fun _ => ⟨rfl, rfl⟩, by omega, by omega, fun i hi => by omega⟩

theorem die_set {w : World} {b : Nat} {s f p a m : Int} (hd : DieAt w b s f p a m) (n : Int) : DieAt (w.setCell ⟨b, 4, none⟩ (.int .i64 n)) b s f p a n := by
  obtain ⟨T, hd⟩ := hd
  refine ⟨T, ?_⟩
  simp [World.setCell, Array.getElem?_modify, hd]
theorem DieAt.below {w w' : World} {b : Nat} {s f p a m : Int} (hd : DieAt w b s f p a m) (hb : Below w.heap.size w w') : DieAt w' b s f p a m :=
  hd.elim fun T h => ⟨T, heap_below hb h⟩
theorem die_next {w w' : World} {b : Nat} {s f p a m n : Int} (hd : DieAt w b s f p a m) (hb : Below w.heap.size (w.setCell ⟨b, 4, none⟩ (.int .i64 n)) w') : DieAt w' b s f p a n :=
  (die_set hd n).below (by simpa using hb)
theorem below_set_then {w w1 w2 : World} {a : Addr} {u : Value} (k : Below w1.heap.size (w1.setCell a u) w2) (hp : w.heap.size ≤ a.block) (h : Below w.heap.size w w1) : Below w.heap.size w w2 :=
  (h.setCell hp u).trans (k.mono h.size)

theorem awake04_any (w : World) : Calls Try.prog 69 #[] w fun e w' => e = .returned (.bool true) ∧ Below w.heap.size w w' := by
  go_enter Try.func69, Try.ntmps69
  go_wp2_with fail
  refine (new04_any _ _ _ _ _).mono ?_
  rintro e w1 ⟨rfl, hw1⟩
  have hb1 : Below w.heap.size w w1 := by rw [← hw1]; go_grown
  have hd : DieAt w1 (w.heap.size + 1) 5 0 0 0 0 := by
    rw [← hw1]
    exact ⟨_, heap_new _ _ _ (by simp)⟩
  clear hw1
  have hlt : w.heap.size + 1 < w1.heap.size := hd.elim fun _ h => heap_lt h
  go_wp2_with fail
  refine (hash_any _ 0 (fun _ => 0) _ (nums_nil _ _ _)).mono ?_
  rintro e w2 ⟨rfl, rfl⟩
  rw [hash_zero]
  go_wp2_with fail
  refine (next_any _ 5 0 0 0 0 _ hd (by decide) (by omega) (by omega)).mono ?_
  rintro e w3 ⟨rfl, hb3⟩
  have hd3 := die_next hd hb3
  have hb3' := below_set_then hb3 (by simp) hb1
  go_wp2_with fail
  refine (unit_any _ _ _ _ _ _ (by decide)).mono ?_
  rintro e w4 ⟨rfl, hb4⟩
  have hd4 := hd3.below hb4
  have hb4' := below_then hb4 hb3'
  go_wp2_with fail
  refine (drawn_any _ _ _ _ _ _ _ hd4).mono ?_
  rintro e w5 ⟨rfl, rfl⟩
  go_wp2
  go_ret
  exact ⟨rfl, hb4'⟩
end Go.Proofs.Ytkbhnomgkmeojaa
