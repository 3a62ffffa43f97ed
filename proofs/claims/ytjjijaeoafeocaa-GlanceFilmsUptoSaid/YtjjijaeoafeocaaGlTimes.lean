/- Texts of letters: their lengths; a byte, so often. No condition. -/
import Derived.Test.YtjjijaeoafeocaaEngG
import Derived.Test.YtjjijaeoafeocaaLoopA
import Derived.Test.YtjjijaeoafeocaaEngGl1
set_option linter.unusedVariables false
set_option linter.unusedSimpArgs false
namespace Go.Proofs.Ytjjijaeoafeocaa
open Go.RowKit

def tms (c : UInt8) (n : Nat) : ByteArray := ⟨(List.replicate n c).toArray⟩
theorem times_nat (c : UInt8) (n : Nat) : timesS c (n : Int) = tms c n := Eq.trans rfl rfl
theorem tms_size (c : UInt8) (n : Nat) : (tms c n).size = n := by
  show (List.replicate n c).toArray.size = n
  simp
theorem sz1 (a : UInt8) : (ByteArray.mk #[a]).size = 1 := rfl
theorem sz2 (a b : UInt8) : (ByteArray.mk #[a, b]).size = 2 := rfl
theorem gd1 (a : UInt8) : (ByteArray.mk #[a]).data.toList.getD 0 (0 : UInt8) = a := Eq.trans rfl rfl
theorem gd2 (a : UInt8) : [a].getD 0 (0 : UInt8) = a := Eq.trans rfl rfl
theorem szA (a b : ByteArray) : (a ++ b).size = a.size + b.size := ByteArray.size_append
theorem strOf_snoc (l : List (List Ct)) (n : Int) : strOf (l ++ [[.i n]]) = (strOf l).push (UInt8.ofNat n.toNat) := by
  simp [strOf, List.foldl_append, Ct.int]
theorem strOf_rep (n : Nat) (c : Int) : strOf (List.replicate n [Ct.i c]) = tms (UInt8.ofNat c.toNat) n := by
  induction n with
  | zero => rfl
  | succ n ih =>
    rw [List.replicate_succ', strOf_snoc, ih]
    show ByteArray.mk ((List.replicate n _).toArray.push _) = ByteArray.mk _
    rw [List.replicate_succ', List.push_toArray]
theorem tim_is (c : Int) (n : Nat) (h : n ≤ 140737488355328) : tim_res c (n : Int) = some (tms (UInt8.ofNat c.toNat) n) := by
  have i : iter (tim_L0_step c (n : Int)) ((n : Int).toNat + 1) (0, []) = some ((n : Int), List.replicate n [Ct.i c]) := by
    refine iter_run (fun k => ((k : Int), List.replicate k [Ct.i c])) (n := n) rfl (fun k hk => ?_) ?_ (by omega)
    · simp only [tim_L0_step]
      refine (cond_decI (by omega)).trans ?_
      refine (cond_decI (by simp only [List.length_replicate, List.length_cons, List.length_nil]; omega)).trans ?_
      rw [wrap_succ (by omega), List.replicate_succ']
    · simp only [tim_L0_step]
      exact cond_notI (by omega)
  have p : tim_L0_p c (n : Int) = true := by unfold tim_L0_p; rw [i]; rfl
  have v : tim_L0_v c (n : Int) = ((n : Int), List.replicate n [Ct.i c]) := by unfold tim_L0_v loopRes; rw [i]; rfl
  simp only [tim_res, p, v, cond_true, strOf_rep]
theorem tim_vis (c : Int) (n : Nat) (h : n ≤ 140737488355328) : tim_v c (n : Int) = tms (UInt8.ofNat c.toNat) n := by unfold tim_v; rw [tim_is c n h]; rfl
end Go.Proofs.Ytjjijaeoafeocaa
