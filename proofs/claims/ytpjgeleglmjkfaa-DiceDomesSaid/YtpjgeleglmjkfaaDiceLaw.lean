/- What any key draws in any dimension is the document's: the law's walk. -/
import Derived.Test.YtpjgeleglmjkfaaDiceKey
set_option linter.unusedVariables false
namespace Go.Proofs.Ytpjgeleglmjkfaa
open Go.RowKit

theorem hash_zero (z : Nat → Int) : hashS 0 z = 0 := by
  have e : hashS 0 z = mixS 0 := rfl
  rw [e]
  decide +kernel
theorem nums_nil (k : IntKind) (w : World) (z : Nat → Int) : Nums k w (.slice none 0 0) 0 z := ⟨none, 0, rfl, by omega, fun _ => ⟨rfl, rfl⟩, by omega, by omega, fun i hi => by omega⟩

theorem die_set {w : World} {b : Nat} {s f p a m : Int} (hd : DieAt w b s f p a m) (n : Int) : DieAt (w.setCell ⟨b, 4, none⟩ (.int .i64 n)) b s f p a n := by
  obtain ⟨T, hd⟩ := hd
  refine ⟨T, ?_⟩
  simp [World.setCell, Array.getElem?_modify, hd]
theorem DieAt.below {w w' : World} {b : Nat} {s f p a m : Int} (hd : DieAt w b s f p a m) (hb : Below w.heap.size w w') : DieAt w' b s f p a m :=
  hd.elim fun T h => ⟨T, heap_below hb h⟩
theorem die_next {w w' : World} {b : Nat} {s f p a m n : Int} (hd : DieAt w b s f p a m) (hb : Below w.heap.size (w.setCell ⟨b, 4, none⟩ (.int .i64 n)) w') : DieAt w' b s f p a n :=
  (die_set hd n).below (by simpa using hb)
theorem below_set_then {w w1 w2 : World} {a : Addr} {u : Value} (k : Below w1.heap.size (w1.setCell a u) w2) (hp : w.heap.size ≤ a.block) (h : Below w.heap.size w w1) : Below w.heap.size w w2 :=
  (h.setCell hp u).trans (k.mono h.size)

theorem awake04_any (w : World) : Calls Try.prog 11 #[] w fun e w' => e = .returned (.bool true) ∧ Below w.heap.size w w' := by
  go_enter Try.func11, Try.ntmps11
  go_wp2_with fail
  refine (new04_any _ _ _ _ _).mono ?_
  rintro e w1 ⟨rfl, hw1⟩
  have hb1 : Below w.heap.size w w1 := by rw [← hw1]; go_grown
  have hd : DieAt w1 (w.heap.size + 1) 5 0 0 0 0 := by
    rw [← hw1]
    exact ⟨_, heap_new _ _ _ (by simp)⟩
  clear hw1
  have hlt : w.heap.size + 1 < w1.heap.size := hd.elim fun _ h => heap_lt h
  go_wp2_with fail
  refine (hash_any _ 0 (fun _ => 0) _ (nums_nil _ _ _)).mono ?_
  rintro e w2 ⟨rfl, rfl⟩
  rw [hash_zero]
  go_wp2_with fail
  refine (next_any _ 5 0 0 0 0 _ hd (by decide) (by omega) (by omega)).mono ?_
  rintro e w3 ⟨rfl, hb3⟩
  have hd3 := die_next hd hb3
  have hb3' := below_set_then hb3 (by simp) hb1
  go_wp2_with fail
  refine (unit_any _ _ _ _ _ _ (by decide)).mono ?_
  rintro e w4 ⟨rfl, hb4⟩
  have hd4 := hd3.below hb4
  have hb4' := below_then hb4 hb3'
  go_wp2_with fail
  refine (drawn_any _ _ _ _ _ _ _ hd4).mono ?_
  rintro e w5 ⟨rfl, rfl⟩
  go_wp2
  go_ret
  exact ⟨rfl, hb4'⟩

theorem walk_DiceDraws (s f p a d n : Int) (w : World) (hs : (Lit.int .u64 s).wf = true) (_ : (Lit.int .i64 f).wf = true) (_ : (Lit.int .i64 p).wf = true) (_ : (Lit.int .i64 a).wf = true) (_ : (Lit.int .i64 d).wf = true) (hn : (Lit.int .i64 n).wf = true) :
    Calls Try.prog 6 #[.agg #[.int .u64 s, .int .i64 f, .int .i64 p, .int .i64 a], .int .i64 d, .int .i64 n] w fun e w' => e = .returned (.bool true) ∧ Below w.heap.size w w' := by
  have q0 : 0 ≤ unitS s f p a d := (unitS_bd s f p a d).1
  have q1 : unitS s f p a d < 65536 := by have := (unitS_bd s f p a d).2; unfold unitS; omega
  go_enter Try.func6, Try.ntmps6
  go_wp2_with (go_at_call 18; refine (to04_any _ _ _ _ _).mono ?_; rintro e w1 ⟨rfl, hb⟩)
  have k : ∀ i v, (#[.int .u64 s, .int .i64 f, .int .i64 p, .int .i64 a] : Array Value)[i]? = some v → (w1.alloc (.cells #[.int .u64 s, .int .i64 f, .int .i64 p, .int .i64 a] 35)).cell? ⟨w.heap.size, i, none⟩ = some v :=
    fun i v h => cell_old _ (below_holds hb (cell_new _ _ _ _ _ h))
  have k' : ∀ i v, (#[.int .u64 s, .int .i64 f, .int .i64 p, .int .i64 a] : Array Value)[i]? = some v → (w1.alloc (.cells #[.int .u64 s, .int .i64 f, .int .i64 p, .int .i64 a] 35)).cell? ⟨w1.heap.size, i, none⟩ = some v :=
    fun i v h => cell_new _ _ _ _ _ h
  have c0 := Cls.cell (k 0 _ rfl)
  have c1 := Cls.cell (k 1 _ rfl)
  have c2 := Cls.cell (k 2 _ rfl)
  have c3 := Cls.cell (k 3 _ rfl)
  have d0 := Cls.cell (k' 0 _ rfl)
  have d1 := Cls.cell (k' 1 _ rfl)
  have d2 := Cls.cell (k' 2 _ rfl)
  have d3 := Cls.cell (k' 3 _ rfl)
  clear k k'
  have hb' : Below w.heap.size w (w1.alloc (.cells #[.int .u64 s, .int .i64 f, .int .i64 p, .int .i64 a] 35)) :=
    (below_then hb (by go_grown)).alloc (by have := hb.size; simp at this; omega) _
  refine wp_region_cls (by kernel_rfl) (by kernel_rfl) ?_
  repeat (go_big_quiet_step ((first
    | (go_at_call 11; exact Cls.calls (awake04_any _))
    | (go_at_call 19; exact Cls.calls (bits_any _ _ _ _ _ _ hs))
    | (go_at_call 20; exact Cls.calls (refbits_any _ _ _ _ _ _ hs))
    | (go_at_call 21; exact Cls.calls (unit_any _ _ _ _ _ _ hs))
    | (go_at_call 22; exact Cls.calls (refunit_any _ _ _ _ _ _ hs))
    | (go_at_call 23; exact Cls.calls (below_any _ _ _ _ _ _ _ hs hn))
    | (go_at_call 24; exact Cls.calls (refbelow_any _ _ _ _ _ _ _ hs hn)))))
  refine wpQuiet_nil ?_
  rintro ⟨w2, hw2⟩
  go_wp2
  go_ret
  exact ⟨rfl, below_then hw2 hb'⟩

theorem walk_DiceHashes (v : Value) (n : Nat) (z : Nat → Nat → Int) (w : World) (hv : Grid [.u64] w v n z) :
    Calls Try.prog 3 #[v] w fun e w' => e = .returned (.bool true) ∧ Below w.heap.size w w' := by
  have hv1 := hv.nums
  go_enter Try.func3, Try.ntmps3
  go_wp2_with fail
  refine (awake04_any _).mono ?_
  rintro e w1 ⟨rfl, hb⟩
  have hv2 := hv1.below hb
  go_wp2_with (first | (go_at_call 12; refine (hash_any _ _ _ _ hv2).mono ?_; rintro e w' ⟨rfl, rfl⟩) | (go_at_call 13; refine (refhash_any _ _ _ _ hv2).mono ?_; rintro e w' ⟨rfl, rfl⟩))
  go_ret
  exact ⟨rfl, hb⟩
end Go.Proofs.Ytpjgeleglmjkfaa
