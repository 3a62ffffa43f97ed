/- What of a frame ahead is kept: plain laws. No condition. -/
import Derived.Test.YtkbhnomgkmeojaaFilmLaw
import Derived.Test.YtkbhnomgkmeojaaEngHue
set_option linter.unusedVariables false
namespace Go.Proofs.Ytkbhnomgkmeojaa

def dotR (N' : List (List Ct)) (j : Nat) (N : List (List Ct)) (k : Nat) : Int := addS (addS (addS (0 : Int) (mulS (rd N' j 0).int (rd N k 0).int)) (mulS (rd N' j 1).int (rd N k 1).int)) (mulS (rd N' j 2).int (rd N k 2).int)
/-- A pixel whose past counts. -/
structure Keeps (S N F S' N' : List (List Ct)) (m : Int) (k : Nat) : Prop where
  f0 : 0 ≤ (rd F k 0).int
  f1 : (rd F k 0).int < m
  s : (rd S' (rd F k 0).int.toNat 0).int = (rd S k 0).int
  n : 57344 ≤ dotR N' (rd F k 0).int.toNat N k
open Classical in
noncomputable def keepB (S N F S' N' : List (List Ct)) (m : Int) (k : Nat) : Bool := decide (Keeps S N F S' N' m k)
theorem keepB_iff {S N F S' N' : List (List Ct)} {m : Int} {k : Nat} : keepB S N F S' N' m k = true ↔ Keeps S N F S' N' m k := by simp [keepB]
theorem keepB_no {S N F S' N' : List (List Ct)} {m : Int} {k : Nat} (h : ¬ Keeps S N F S' N' m k) : keepB S N F S' N' m k = false := by simp [keepB, h]
noncomputable def keptF (S N F S' N' : List (List Ct)) (m : Int) (k : Nat) (a : Int) : Int := bif keepB S N F S' N' m k then IntKind.i64.wrap (a + 1) else a
noncomputable def keptS (L S N F S' N' : List (List Ct)) (m : Int) : Int := nfold (keptF S N F S' N' m) L.length 0
/-- A pixel's light, blended. -/
noncomputable def rowB (L S N F S' N' : List (List Ct)) (m : Int) (Z : List (List Ct)) (k : Nat) : List Ct :=
  bif keepB S N F S' N' m k then
    [.i (hmix_v (rd L k 0).int (rd L k 1).int (rd L k 2).int (rd Z (rd F k 0).int.toNat 0).int (rd Z (rd F k 0).int.toNat 1).int (rd Z (rd F k 0).int.toNat 2).int 32768).1,
     .i (hmix_v (rd L k 0).int (rd L k 1).int (rd L k 2).int (rd Z (rd F k 0).int.toNat 0).int (rd Z (rd F k 0).int.toNat 1).int (rd Z (rd F k 0).int.toNat 2).int 32768).2.1,
     .i (hmix_v (rd L k 0).int (rd L k 1).int (rd L k 2).int (rd Z (rd F k 0).int.toNat 0).int (rd Z (rd F k 0).int.toNat 1).int (rd Z (rd F k 0).int.toNat 2).int 32768).2.2]
  else [.i (rd L k 0).int, .i (rd L k 1).int, .i (rd L k 2).int]
/-- A sheet that may be, of the size that is asked. -/
structure SheetOk (w h : Int) (Z : List (List Ct)) (w' h' : Int) : Prop where
  w1 : 1 ≤ w
  w2 : w ≤ 64
  h1 : 1 ≤ h
  h2 : h ≤ 64
  l : (Z.length : Int) = w * h
  ew : w = w'
  eh : h = h'
open Classical in
noncomputable def sizeS (w h : Int) (Z : List (List Ct)) (w' h' : Int) : Bool := decide (SheetOk w h Z w' h')
theorem sizeS_iff {w h : Int} {Z : List (List Ct)} {w' h' : Int} : sizeS w h Z w' h' = true ↔ SheetOk w h Z w' h' := by simp [sizeS]
theorem sizeS_true {w h : Int} {Z : List (List Ct)} {w' h' : Int} (k : SheetOk w h Z w' h') : sizeS w h Z w' h' = true := sizeS_iff.2 k
theorem sizeS_false {w h : Int} {Z : List (List Ct)} {w' h' : Int} (k : ¬ SheetOk w h Z w' h') : sizeS w h Z w' h' = false := by simp [sizeS, k]
end Go.Proofs.Ytkbhnomgkmeojaa
